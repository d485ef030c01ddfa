/- texts of the nF, e5 behind the l0 -/
import Derived.Test.YtifflnhooaophaaGreatDoorProg
import Derived.WalkKit
import Derived.KernelRfl
import Derived.Shelf.Unicode.PredsPay
import Derived.Shelf.Unicode.DecodeAny
import Derived.Lib.OthersKept
import Derived.Test.YtifflnhooaophaaGreatDoorRows
import Derived.PinnedBridge
import Derived.Lib.LaidU8T
import Derived.Lib.LaidRTab
import Derived.Lib.LaidTab
import Derived.BigCall
import Derived.Shelf.Strings.BuilderK
import Derived.Shelf.Strings.BuilderRune
import Derived.Shelf.Unicode.CaseLaid
import Derived.Lib.RuneBytes
import Derived.Shelf.Strings.MapGrows
import Derived.Lib.LaidCase
import Derived.Test.YtifflnhooaophaaGreatDoorAbD
set_option linter.unusedVariables false
set_option linter.unusedSimpArgs false
set_option linter.unusedSectionVars false
set_option maxHeartbeats 4000000
open List Nat
namespace Go.Proofs
open Go.RowKit Go.Shelf Go.Lib
set_option maxRecDepth 100000
def Tryz.Bs:Ren:=
{
  f:=fun x=>
    match x with
    | 198=>157
    | 261=>213
    | 311=>242
    | 312=>243
    | n=>n,
  t:=fun x=>
    match x with
    | 21=>21
    | 4=>4
    | 141=>341
    | 0=>0
    | 196=>373
    | 193=>370
    | 3=>3
    | 51=>338
    | 198=>375
    | 49=>47
    | 194=>371
    | 201=>378
    | 226=>403
    | 46=>75
    | 227=>404
    | n=>n,
  g:=fun x=>
    match x with
    | 5=>2
    | n=>n}
def Tryz.Bt:Ren:=
{
  f:=fun x=>
    match x with
    | 200=>156
    | 261=>213
    | 311=>242
    | 312=>243
    | n=>n,
  t:=fun x=>
    match x with
    | 21=>21
    | 4=>4
    | 51=>338
    | 5=>5
    | 119=>339
    | 0=>0
    | 141=>341
    | 196=>373
    | 193=>370
    | 3=>3
    | 198=>375
    | 49=>47
    | 194=>371
    | 201=>378
    | 226=>403
    | 46=>75
    | 227=>404
    | n=>n,
  g:=fun x=>
    match x with
    | 7=>0
    | 8=>1
    | n=>n}
def Tryz.Ge:Ren:=
{
  f:=fun x=>
    match x with
    | 197=>222
    | 260=>248
    | n=>n,
  t:=fun x=>
    match x with
    | 9=>9
    | 21=>21
    | 3=>3
    | 4=>4
    | 5=>5
    | 105=>350
    | 119=>339
    | 0=>0
    | 46=>75
    | 139=>417
    | 138=>416
    | n=>n,
  g:=fun x=>
    match x with
    | 3=>4
    | 4=>5
    | n=>n}
theorem Tryz.Po:Lays.n200 Tryz.prog Tryz.Bt:=
{mixed:=Eq.refl true, f200:=Eq.trans Tryz.func156 (congrArg some (Eq.refl (Body.n200 Tryz.Bt))),
  f261:=Eq.trans Tryz.func213 (congrArg some (Eq.refl (Body.n261 Tryz.Bt))),
  f311:=Eq.trans Tryz.func242 (congrArg some (Eq.refl (Body.n311 Tryz.Bt))),
  f312:=Eq.trans Tryz.func243 (congrArg some (Eq.refl (Body.n312 Tryz.Bt))), t0:=Tryz.underlying0,
  a0:=Tryz.isAgg0, z0:=Tryz.sizeOf0, v0:=Tryz.zeroValue0, t3:=Tryz.underlying3, a3:=Tryz.isAgg3,
  z3:=Tryz.sizeOf3, v3:=Tryz.zeroValue3, t4:=Tryz.underlying4, a4:=Tryz.isAgg4, z4:=Tryz.sizeOf4,
  v4:=Tryz.zeroValue4, t5:=Tryz.underlying5, a5:=Tryz.isAgg5, z5:=Tryz.sizeOf5, v5:=Tryz.zeroValue5,
  t21:=Tryz.underlying21, a21:=Tryz.isAgg21, z21:=Tryz.sizeOf21, v21:=Tryz.zeroValue21,
  t46:=Tryz.underlying75, a46:=Tryz.isAgg75, z46:=Tryz.sizeOf75, v46:=Tryz.zeroValue75,
  t49:=Tryz.underlying47, a49:=Tryz.isAgg47, z49:=Tryz.sizeOf47, v49:=Tryz.zeroValue47,
  t51:=Tryz.underlying338, a51:=Tryz.isAgg338, z51:=Tryz.sizeOf338, v51:=Tryz.zeroValue338,
  t119:=Tryz.underlying339, a119:=Tryz.isAgg339, z119:=Tryz.sizeOf339, t141:=Tryz.underlying341,
  a141:=Tryz.isAgg341, z141:=Tryz.sizeOf341, v141:=Tryz.zeroValue341, t193:=Tryz.underlying370,
  a193:=Tryz.isAgg370, z193:=Tryz.sizeOf370, v193:=Tryz.zeroValue370, t194:=Tryz.underlying371,
  a194:=Tryz.isAgg371, z194:=Tryz.sizeOf371, v194:=Tryz.zeroValue371, t196:=Tryz.underlying373,
  a196:=Tryz.isAgg373, z196:=Tryz.sizeOf373, v196:=Tryz.zeroValue373, t198:=Tryz.underlying375,
  a198:=Tryz.isAgg375, z198:=Tryz.sizeOf375, v198:=Tryz.zeroValue375, t201:=Tryz.underlying378,
  a201:=Tryz.isAgg378, z201:=Tryz.sizeOf378, v201:=Tryz.zeroValue378, t226:=Tryz.underlying403,
  a226:=Tryz.isAgg403, z226:=Tryz.sizeOf403, v226:=Tryz.zeroValue403, t227:=Tryz.underlying404,
  a227:=Tryz.isAgg404, z227:=Tryz.sizeOf404, v227:=Tryz.zeroValue404,
  g7:=(by kernel_rfl), g8:=(by kernel_rfl)}
theorem Tryz.Pp:Lays.n198 Tryz.prog Tryz.Bs:=
{mixed:=Eq.refl true, f198:=Eq.trans Tryz.func157 (congrArg some (Eq.refl (Body.n198 Tryz.Bs))),
  f261:=Eq.trans Tryz.func213 (congrArg some (Eq.refl (Body.n261 Tryz.Bs))),
  f311:=Eq.trans Tryz.func242 (congrArg some (Eq.refl (Body.n311 Tryz.Bs))),
  f312:=Eq.trans Tryz.func243 (congrArg some (Eq.refl (Body.n312 Tryz.Bs))), t0:=Tryz.underlying0,
  a0:=Tryz.isAgg0, z0:=Tryz.sizeOf0, v0:=Tryz.zeroValue0, t3:=Tryz.underlying3, a3:=Tryz.isAgg3,
  z3:=Tryz.sizeOf3, v3:=Tryz.zeroValue3, t4:=Tryz.underlying4, a4:=Tryz.isAgg4, z4:=Tryz.sizeOf4,
  v4:=Tryz.zeroValue4, t21:=Tryz.underlying21, a21:=Tryz.isAgg21, z21:=Tryz.sizeOf21, v21:=Tryz.zeroValue21,
  t46:=Tryz.underlying75, a46:=Tryz.isAgg75, z46:=Tryz.sizeOf75, v46:=Tryz.zeroValue75,
  t49:=Tryz.underlying47, a49:=Tryz.isAgg47, z49:=Tryz.sizeOf47, v49:=Tryz.zeroValue47,
  t51:=Tryz.underlying338, a51:=Tryz.isAgg338, z51:=Tryz.sizeOf338, v51:=Tryz.zeroValue338,
  t141:=Tryz.underlying341, a141:=Tryz.isAgg341, z141:=Tryz.sizeOf341, v141:=Tryz.zeroValue341,
  t193:=Tryz.underlying370, a193:=Tryz.isAgg370, z193:=Tryz.sizeOf370, v193:=Tryz.zeroValue370,
  t194:=Tryz.underlying371, a194:=Tryz.isAgg371, z194:=Tryz.sizeOf371, v194:=Tryz.zeroValue371,
  t196:=Tryz.underlying373, a196:=Tryz.isAgg373, z196:=Tryz.sizeOf373, v196:=Tryz.zeroValue373,
  t198:=Tryz.underlying375, a198:=Tryz.isAgg375, z198:=Tryz.sizeOf375, v198:=Tryz.zeroValue375,
  t201:=Tryz.underlying378, a201:=Tryz.isAgg378, z201:=Tryz.sizeOf378, v201:=Tryz.zeroValue378,
  t226:=Tryz.underlying403, a226:=Tryz.isAgg403, z226:=Tryz.sizeOf403, v226:=Tryz.zeroValue403,
  t227:=Tryz.underlying404, a227:=Tryz.isAgg404, z227:=Tryz.sizeOf404, v227:=Tryz.zeroValue404,
  g5:=(by kernel_rfl)}
theorem Tryz.XA:Lays.n197 Tryz.prog Tryz.Ge:=
{mixed:=Eq.refl true, f197:=Eq.trans Tryz.func222 (congrArg some (Eq.refl (Body.n197 Tryz.Ge))),
  f260:=Eq.trans Tryz.func248 (congrArg some (Eq.refl (Body.n260 Tryz.Ge))), t0:=Tryz.underlying0,
  a0:=Tryz.isAgg0, z0:=Tryz.sizeOf0, v0:=Tryz.zeroValue0, t3:=Tryz.underlying3, a3:=Tryz.isAgg3,
  z3:=Tryz.sizeOf3, v3:=Tryz.zeroValue3, t4:=Tryz.underlying4, a4:=Tryz.isAgg4, z4:=Tryz.sizeOf4,
  v4:=Tryz.zeroValue4, t5:=Tryz.underlying5, a5:=Tryz.isAgg5, z5:=Tryz.sizeOf5, v5:=Tryz.zeroValue5,
  t9:=Tryz.underlying9, a9:=Tryz.isAgg9, z9:=Tryz.sizeOf9, v9:=Tryz.zeroValue9, t21:=Tryz.underlying21,
  a21:=Tryz.isAgg21, z21:=Tryz.sizeOf21, v21:=Tryz.zeroValue21, t46:=Tryz.underlying75, a46:=Tryz.isAgg75,
  z46:=Tryz.sizeOf75, v46:=Tryz.zeroValue75, t105:=Tryz.underlying350, a105:=Tryz.isAgg350,
  z105:=Tryz.sizeOf350, v105:=Tryz.zeroValue350, t119:=Tryz.underlying339, a119:=Tryz.isAgg339,
  z119:=Tryz.sizeOf339, t138:=Tryz.underlying416, a138:=Tryz.isAgg416, z138:=Tryz.sizeOf416,
  v138:=Tryz.zeroValue416, t139:=Tryz.underlying417, a139:=Tryz.isAgg417, z139:=Tryz.sizeOf417,
  v139:=Tryz.zeroValue417, g3:=(by kernel_rfl),
  g4:=(by kernel_rfl)}
end Go.Proofs
set_option maxRecDepth 100000
namespace Go.Ab
open Go Go.Lib
variable {P:Program} {B:Nat} {σ:cO} {h:Nat->Option Obj} {H:ar} {w W:World}
theorem x5 (k:@gS (np W) P B σ h H w) {a:Addr} {v:Value} (aD:W.cell? a=some v):w.cell? a=some v:=by
  letI:=np W
  have dy:a.block<W.heap.size:=by
    grind[World.cell?]
  have e:w.heap[a.block]? = W.heap[a.block]? := k.base _ (Nat.lt_of_lt_of_le dy k.fc)
  simp_all[World.cell?]
theorem XB (k:@gS (np W) P B σ h H w) {n:String} {v:Array Value} (aD:W.var? P n=some v):w.var? P n=some v:=by
  letI:=np W
  unfold World.var? at*
  cases hg:P.globalNamed n with
  | none=>simp_all
  | some g=>
    rw [hg]at aD
    have dy:g<W.heap.size:=by
      grind
    have e:w.heap[g]? = W.heap[g]? := k.base _ (Nat.lt_of_lt_of_le dy k.fc)
    simp_all
theorem ani (k:@gS (np W) P B σ h H w) {n:String} {jr:IntKind} {jj:List Int} (bd:TabIs P W n jr jj):TabIs P w n jr jj:=XB k bd
theorem XC (k:@gS (np W) P B σ h H w) {g:Nat} {T:RTab} (hV:RVar g T W):RVar g T w:=by
  obtain⟨Pq, Pr, h1, Bu, Ps, Pt, Pu, Kl, Pv, Pw, Px, h2, aB, bk, cj, dh, fP, hM, iC⟩:=hV
  refine⟨Pq, Pr, x5 k h1, Bu, Ps, Pt, Pu, Kl, Pv, Pw, Px, x5 k h2, x5 k aB, x5 k bk, cj, dh, fun i aq=>?_, fun i aq=>?_, iC⟩
  · obtain⟨x, y, z⟩:=fP i aq
    grind[x5]
  · obtain⟨x, y, z⟩:=hM i aq
    grind[x5]
theorem Gf {f:FuncId} {args:List Value} {v:Value} (bp:args.all zb=true) (hv:Vy v=true) (hf:∃fn c, P.funcs[f]? = some fn/\fn.body=some c)
    (aD:∀(B:Nat) (σ:cO) (h:Nat->Option Obj) (w:World), @gS (np W) P B σ h H w->Calls P f args.toArray w fun e aV=>e= .returned v/\RowKit.Below w.heap.size w aV):@xE (np W) P f args H v:=by
  intro B σ h w fN k vy
  have e:fN=args.toArray:=Array.ext' (by rw [vy.zb bp])
  subst e
  refine⟨hf, CallsIn.mono (callsIn_wide.2 (aD B σ h w k)) ?_⟩
  simp_all[akw]
end Go.Ab
namespace Seal
open Go Go.Ab Go.Lib Go.Proofs
variable {W:World}
theorem anj (bd:TabIs Tryz.prog W "unicode.properties" .u8 propertiesTab) (hV:RVar 1 letterT W) {r:Int} (h1:-2147483648<=r) (h2:r<=2147483647) (H:ar):@xE (np W) Tryz.prog 156 [.int .i32 r] H (.bool (isLetterU r)):=
  Gf rfl rfl ⟨_, _, Tryz.func156, rfl⟩ fun B σ h w k=>Any.unicode_IsLetter_all Tryz.Po (by rfl) r w h1 h2 (ani k bd) (XC k hV)
theorem ank (hV:RVar 2 digitT W) {r:Int} (h1:-2147483648<=r) (h2:r<=2147483647) (H:ar):@xE (np W) Tryz.prog 157 [.int .i32 r] H (.bool (isDigitU r)):=
  Gf rfl rfl ⟨_, _, Tryz.func157, rfl⟩ fun B σ h w k=>Any.unicode_IsDigit_all Tryz.Pp r w h1 h2 (XC k hV)
end Seal
namespace Seal
open Go Go.Lib Go.Proofs Go.RowKit
set_option maxRecDepth 1000000 in
theorem anl (s:ByteArray) (a c:Int) (aD:c≠65533) (w:World):Calls Tryz.prog 177 #[.string s,.int .i64 a,.int .i32 c] w fun e aV=>e= .returned (.bool false)/\aV=w:=by
  have h:(c !=65533)=true:=by simp [aD]
  go_enter Tryz.func177, Tryz.ntmps177
  go_wp2
  go_ret
  simp_all
set_option maxRecDepth 1000000 in
theorem anm (s:ByteArray) (a:Nat) (bp:a<=s.size) (w:World) (bd:Utf8Tabs 4 5 w):Calls Tryz.prog 177 #[.string s,.int .i64 a,.int .i32 65533] w fun e aV=>e= .returned (.bool (decide ((decodeGo (s.extract a s.size)).2=1)))/\Below w.heap.size w aV:=by
  have Py:Calls Tryz.prog 222 #[.string (s.extract a s.size)] w _:=Any.utf8_DecodeRuneInString Tryz.XA (s.extract a s.size) w bd
  have h1:(0:Int)<=a:=by omega
  have h2:(a:Int)<=s.size:=by omega
  go_enter Tryz.func177, Tryz.ntmps177
  go_wp2_with fail
  refine Py.mono fun e dH ⟨he, an⟩=>?_
  subst he
  go_wp2_with fail
  go_ret
  refine⟨?_, an⟩
  show Ending.returned (.bool (((decodeGo (s.extract a s.size)).2:Int)==1))=_
  have e:(((decodeGo (s.extract a s.size)).2:Int)==1)=decide ((decodeGo (s.extract a s.size)).2=1):=by
    grind
  rw [e]
set_option maxRecDepth 1000000 in
theorem XD (s:ByteArray) (a:Nat) (bp:a<=s.size) (c:Int) (w:World) (bd:Utf8Tabs 4 5 w):Calls Tryz.prog 177 #[.string s,.int .i64 a,.int .i32 c] w fun e aV=>e= .returned (.bool (decide (c=65533/\(decodeGo (s.extract a s.size)).2=1)))/\Below w.heap.size w aV:=by
  by_cases aD:c=65533
  · subst aD
    refine(anm s a bp w bd).mono fun e aV ⟨he, an⟩=>⟨?_, an⟩
    grind
  · refine(anl s a c aD w).mono fun e aV ⟨he, aM⟩=>⟨?_, aM▸Below.refl _ _⟩
    simp_all
def wJ (c:Int) (first:Bool):Bool:=isLetterU c||!first&&(isDigitU c||c==45||c==95||c==46)
set_option maxRecDepth 1000000 in
theorem ann (c:Int) (first:Bool) (h1:-2147483648<=c) (h2:c<=2147483647) (w:World) (bd:TabIs Tryz.prog w "unicode.properties" .u8 propertiesTab) (hL:RVar 1 letterT w) (lf:∀aV, Below w.heap.size w aV->RVar 2 digitT aV):
    Calls Tryz.prog 181 #[.int .i32 c,.bool first] w fun e aV=>e= .returned (.bool (wJ c first))/\Below w.heap.size w aV:=by
  have Km:Calls Tryz.prog 156 #[.int .i32 c] w _:=Any.unicode_IsLetter_all Tryz.Po (by rfl) c w h1 h2 bd hL
  go_enter Tryz.func181, Tryz.ntmps181
  go_wp2_with fail
  refine Km.mono fun e dH ⟨he, an⟩=>?_
  subst he
  have Py:Calls Tryz.prog 157 #[.int .i32 c] dH _:=Any.unicode_IsDigit_all Tryz.Pp c dH h1 h2 (lf dH an)
  cases aE:isLetterU c with
  | true=>
    go_wp2_with fail
    go_ret
    simp_all[wJ]
  | false=>
    cases first with
    | true=>
      go_wp2_with fail
      go_ret
      simp_all[wJ]
    | false=>
      go_wp2_with fail
      refine Py.mono fun e e0 ⟨he, py⟩=>?_
      subst he
      have x6:Below w.heap.size w e0:=an.trans (py.mono an.size)
      cases aO:isDigitU c with
      | true=>
        go_wp2_with fail
        go_ret
        simp_all[wJ]
      | false=>
        by_cases bb:c=45
        · subst bb
          go_wp2_with fail
          go_ret
          simp_all[wJ]
        by_cases bt:c=95
        · subst bt
          go_wp2_with fail
          go_ret
          simp_all[wJ]
        have b1:(c==45)=false:=by simp_all
        have b2:(c==95)=false:=by simp_all
        go_wp2_with fail
        go_ret
        simp_all[wJ]
end Seal
namespace Seal
open Go Go.Lib Go.Proofs Go.RowKit
structure th (w:World):Prop where
  u:Utf8Tabs 4 5 w
  p:TabIs Tryz.prog w "unicode.properties" .u8 propertiesTab
  l:RVar 1 letterT w
  d:RVar 2 digitT w
theorem th.ld {w aV:World} (h:th w) (aD:∀a v, w.cell? a=some v->aV.cell? a=some v) (hv:∀n v, w.var? Tryz.prog n=some v->aV.var? Tryz.prog n=some v):th aV:=by
  have fK:∀ {g:Nat} {T:RTab}, RVar g T w->RVar g T aV:=by
    rintro g T ⟨Pq, Pr, h1, Bu, Ps, Pt, Pu, Kl, Pv, Pw, Px, h2, aB, bk, cj, dh, fP, hM, iC⟩
    refine⟨Pq, Pr, aD _ _ h1, Bu, Ps, Pt, Pu, Kl, Pv, Pw, Px, aD _ _ h2, aD _ _ aB, aD _ _ bk, cj, dh, fun i aq=>?_, fun i aq=>?_, iC⟩
    · obtain⟨x, y, z⟩:=fP i aq
      simp_all
    · obtain⟨x, y, z⟩:=hM i aq
      simp_all
  exact⟨⟨fun c h1=>aD _ _ (h.u.1 c h1), fun i aq=>⟨aD _ _ (h.u.2 i aq).1, aD _ _ (h.u.2 i aq).2⟩⟩, hv _ _ h.p, fK h.l, fK h.d⟩
theorem th.below {w aV:World} (h:th w) (an:Below w.heap.size w aV):th aV:=by
  refine h.ld (fun a v bp=>?_) (fun n v aR=>?_)
  · have dy:a.block<w.heap.size:=by
      grind[World.cell?]
    rw [an.cell dy];exact bp
  · unfold World.var? at*
    cases hg:Tryz.prog.globalNamed n with
    | none=>simp_all
    | some g=>
      rw [hg]at aR
      have dy:g<w.heap.size:=by
        grind
      show(match aV.heap[g]? with|some (.cells ao _ _)=>some ao|_=>none)=some v
      rw [an.block g dy];exact aR
def zs (n:Int):Int:=if n<1\/n>24 then 41 else 0
def zt (s:ByteArray) (aZ:Nat) (c:Int):Bool:=decide (c=65533/\(decodeGo (s.extract aZ s.size)).2=1)
def DK (s:ByteArray) (aZ:Nat) (n:Int):Bool:=zt s aZ (Utf8.decode s aZ).1||!wJ (Utf8.decode s aZ).1 (n==0)
def o4 (s:ByteArray):Nat->Nat->Int->Int
  | 0, aZ, n=>zs n
  | b+1, aZ, n=>if aZ<s.size then(if DK s aZ n then 41 else o4 s b (aZ+(Utf8.decode s aZ).2) (n+1))else zs n
theorem ano (s:ByteArray) (b aZ:Nat) (n:Int) (h:¬aZ<s.size):o4 s b aZ n=zs n:=by
  cases b with
  | zero=>rfl
  | succ b=>simp [o4, h]
theorem XE (s:ByteArray) (aZ:Nat) (h:aZ<s.size):1<=(Utf8.decode s aZ).2:=by
  by_cases bp:(s[aZ]'h).toNat<128
  · simp_all[decode_ascii]
  simp_all[decode_high]
theorem anp {w wr:World} {s:ByteArray} {p:Nat} (h:Below w.heap.size w wr):Below w.heap.size w (wr.iterAt w.heap.size s p):=by
  refine h.trans ⟨rfl, rfl, rfl, ?_, fun k ag=>?_⟩
  · simp [World.iterAt]
  grind[World.iterAt]
theorem anq {k:Nat} {wr:World} {s:ByteArray} {p q:Nat} (h:wr.heap[k]? = some (.stringIter s q)):(wr.iterAt k s p).heap[k]? = some (.stringIter s p):=by
  grind[World.iterAt]
set_option maxRecDepth 1000000 in
theorem anr (s:ByteArray) (aw:s.size<4611686018427387904) (w:World) (bd:th w):Calls Tryz.prog 123 #[.string s] w fun e aV=>e= .returned (.int .i64 (o4 s s.size 0 0))/\Below w.heap.size w aV:=by
  go_enter Tryz.func123, Tryz.ntmps123
  go_wp2_with fail
  go_loopw [3] (fun n aV=>∃(aZ b:Nat) (k:Int), aV.heap[w.heap.size]? = some (.stringIter s aZ)/\Below w.heap.size w aV/\n= .int .i64 k/\o4 s b aZ k=o4 s s.size 0 0/\s.size<=aZ+b/\0<=k/\k<=aZ) (fun _ aV=>s.size-aV.iterPos w.heap.size)
  case atStart=>exact⟨0, s.size, 0, World.iter_heap w s 0, Below.alloc (Below.refl _ _) (Nat.le_refl _) _, rfl, rfl, by omega, by omega, by omega⟩
  case round=>
    obtain⟨aZ, b, k, mm, o3, rfl, aD, an, gA, sA⟩:=hrel
    by_cases bS:aZ<s.size
    · have tV:∀cW,(Instr.next (.pointer (some ⟨w.heap.size, 0, none⟩)) true cW).run Tryz.prog wr=_:=fun cW=>run_next_any_at wr w.heap.size s aZ cW mm bS
      have ans:=XE s aZ bS
      have Kn:Below w.heap.size w (wr.iterAt w.heap.size s (aZ+(Utf8.decode s aZ).2)):=anp o3
      have Pz:(wr.iterAt w.heap.size s (aZ+(Utf8.decode s aZ).2)).heap[w.heap.size]? = some (.stringIter s (aZ+(Utf8.decode s aZ).2)):=anq mm
      have lg:=decode_le s aZ
      generalize wr.iterAt w.heap.size s (aZ+(Utf8.decode s aZ).2)=dH at*
      have DL:Calls Tryz.prog 177 #[.string s,.int .i64 aZ,.int .i32 (Utf8.decode s aZ).1] dH fun e aV=>e= .returned (.bool (zt s aZ (Utf8.decode s aZ).1))/\Below dH.heap.size dH aV:=XD s aZ (Nat.le_of_lt bS) (Utf8.decode s aZ).1 dH (bd.below Kn).u
      have dy:w.heap.size<dH.heap.size:=(Array.getElem?_eq_some_iff.1 Pz).1
      obtain⟨eB, Gg⟩:∃eB, zt s aZ (Utf8.decode s aZ).1=eB:=⟨_, rfl⟩
      rw [Gg]at DL
      go_wp2_with fail
      refine DL.mono fun e e0 ⟨he, py⟩=>?_
      subst he
      have Gh:Below w.heap.size w e0:=Kn.trans (py.mono Kn.size)
      have PB:e0.heap[w.heap.size]? = some (.stringIter s (aZ+(Utf8.decode s aZ).2)):=by rw [py.block _ dy];exact Pz
      clear Pz Kn py o3
      cases eB with
      | true=>
        go_wp2_with fail
        go_ret
        refine⟨?_, Gh⟩
        rw [<- aD]
        cases b with
        | zero=>omega
        | succ b=>simp_all[o4,DK]
      | false=>
        have F8:=bd.below Gh
        have XF:=ann (Utf8.decode s aZ).1 (k==0) (by omega) (by omega) e0 F8.p F8.l (fun aV a6=>(F8.below a6).d)
        obtain⟨cE, ant⟩:∃cE, wJ (Utf8.decode s aZ).1 (k==0)=cE:=⟨_, rfl⟩
        rw [ant]at XF
        go_wp2_with fail
        refine XF.mono fun e ka ⟨he, x6⟩=>?_
        subst he
        have anu:w.heap.size<e0.heap.size:=(Array.getElem?_eq_some_iff.1 PB).1
        have XG:Below w.heap.size w ka:=Gh.trans (x6.mono Gh.size)
        have anv:ka.heap[w.heap.size]? = some (.stringIter s (aZ+(Utf8.decode s aZ).2)):=by rw [x6.block _ anu];exact PB
        clear PB Gh x6
        cases cE with
        | false=>
          go_wp2_with fail
          go_ret
          refine⟨?_, XG⟩
          rw [<- aD]
          cases b with
          | zero=>omega
          | succ b=>simp_all[o4,DK]
        | true=>
          have kE:k+1<9223372036854775808:=by omega
          go_wp2_with fail
          go_roundw
          case rel=>
            cases b with
            | zero=>omega
            | succ b=>
              refine⟨aZ+(Utf8.decode s aZ).2, b, k+1, anv, XG, ?_, ?_, by omega, by omega, by omega⟩
              · rfl
              simp_all[o4,DK]
          case measure=>
            grind[World.iterPos]
    · have tV:∀cW,(Instr.next (.pointer (some ⟨w.heap.size, 0, none⟩)) true cW).run Tryz.prog wr=_:=fun cW=>run_next_end_at wr w.heap.size s aZ cW mm bS
      rw [ano s b aZ k bS]at aD
      by_cases h1:k<1
      · go_wp2_with fail
        go_ret
        simp_all[zs]
      by_cases h2:k>24
      · go_wp2_with fail
        go_ret
        simp_all[zs]
      go_wp2_with fail
      go_ret
      exact⟨by rw [<- aD];simp [zs, h1, h2], o3⟩
end Seal
namespace Seal
open Go Go.Ab Go.Lib Go.Proofs
variable {W:World}
theorem XH {B:Nat} {σ:Ab.cO} {h:Nat->Option Ab.Obj} {H:Ab.ar} {w:World} (k:@gS (np W) Tryz.prog B σ h H w) (bd:th W):th w:=bd.ld (fun a v bp=>x5 k bp) (fun n v aR=>XB k aR)
theorem anw (bd:th W) {s:ByteArray} (aw:s.size<4611686018427387904) (H:Ab.ar):@xE (np W) Tryz.prog 123 [.string s] H (.int .i64 (o4 s s.size 0 0)):=
  Gf rfl rfl ⟨_, _, Tryz.func123, rfl⟩ fun B σ h w k=>anr s aw w (XH k bd)
end Seal
namespace Seal
open Go Go.Lib Go.Shelf Go.Proofs Go.Proofs.YtifflnhooaophaaGreatDoor
variable {W:World}
theorem anx:RExtra Tryz.prog Tryz.Bt:=⟨by rfl, by rfl, by rfl, by rfl, by rfl, by rfl, by rfl, by rfl⟩
theorem anz:RExtra Tryz.prog Tryz.Bs:=⟨by rfl, by rfl, by rfl, by rfl, by rfl, by rfl, by rfl, by rfl⟩
theorem anA:U8Extra Tryz.prog Tryz.Ge:=by constructor<;>kernel_rfl
theorem anB:(Rows.laid_unicode_utf8_acceptRanges:DataW Unit)=acceptData:=by rfl
theorem anC:(Rows.laid_unicode_properties:DataW Unit)=tabData .u8 propertiesTab:=by rfl
theorem anD {P:Program} {name:String} {k:IntKind} {jj:List Int} {g:Nat} {t e:TypeId} {n:Nat}
    (hg:P.globalNamed name=some g) (anE:(P.globals[g]?).map (·.type)=some t) (ht:P.underlying t=some (.array n e)) (he:P.underlying e=some (.int k)) (anF:P.cellsOf e=1) (Ko:P.cellsOf t=n)
    (h:VarReads P W name (tabData k jj)):TabIs P W name k jj:=by
  obtain⟨A9, EY, ao, l5, p, wC, O4, anG, aO⟩:=h
  obtain rfl:=Option.some.inj (hg.symm.trans wC)
  obtain rfl:=Option.some.inj (anE.symm.trans O4)
  unfold TabIs
  rw [anG, <- cells_of_tab ht he anF Ko aO]
theorem anH (h1:VarReads Tryz.prog W "unicode/utf8.acceptRanges" Rows.laid_unicode_utf8_acceptRanges) (h2:VarReads Tryz.prog W "unicode.properties" Rows.laid_unicode_properties)
    (aB:VarReads Tryz.prog W "unicode.Digit" Rows.laid_unicode_Digit) (bk:VarReads Tryz.prog W "unicode.Letter" Rows.laid_unicode_Letter) (cj:VarReads Tryz.prog W "unicode/utf8.first" Rows.laid_unicode_utf8_first):th W:=by
  refine⟨?_, ?_, ?_, ?_⟩
  · rw [anB]at h1
    have cj:VarReads Tryz.prog W "unicode/utf8.first" Pinned.utf8First:=cj
    rw [Pinned.utf8First_eq]at cj
    exact utf8Tabs_of_readsT (ρ:=Tryz.Ge) {Tryz.XA with} anA cj h1
  · rw [anC]at h2
    exact anD (g:=0) (t:=339) (e:=5) (n:=256) (by rfl) (by rfl) (by rfl) (by rfl) (by rfl) (by rfl) h2
  · have bk:VarReads Tryz.prog W "unicode.Letter" Pinned.letter:=bk
    rw [Pinned.letter_eq]at bk
    exact rvar_of_reads (ρ:=Tryz.Bt) {Tryz.Po with} anx (by rfl) (by rfl) bk
  · have aB:VarReads Tryz.prog W "unicode.Digit" Pinned.digit:=aB
    rw [Pinned.digit_eq]at aB
    exact rvar_of_reads (ρ:=Tryz.Bs) {Tryz.Pp with} anz (by rfl) (by rfl) aB
end Seal
namespace Seal
open Go Go.Lib Go.Shelf Go.Proofs
variable {W:World}
def Kp (args:List Value):Option Value:=match args with
  | [.string s]=>cond (Nat.blt s.size 4611686018427387904) (some (.int .i64 (o4 s s.size 0 0))) none
  | _=>none
def DM (F:Int->Bool) (args:List Value):Option Value:=match args with
  | [.int .i32 r]=>cond (decide (-2147483648<=r)&&decide (r<=2147483647)) (some (.bool (F r))) none
  | _=>none
@[reducible] def PC:Ab.dX:=⟨fun f args _=>cond (Nat.beq f 123) (Kp args) (cond (Nat.beq f 156) (DM isLetterU args) (cond (Nat.beq f 157) (DM isDigitU args) none)), fun _=>none⟩
theorem anI {args:List Value} {v:Value} (h:Kp args=some v):∃s, args= [.string s]/\s.size<4611686018427387904/\v= .int .i64 (o4 s s.size 0 0):=by
  unfold Kp at h
  split at h
  · rename_i s
    cases an:Nat.blt s.size 4611686018427387904 with
    | false=>simp_all
    | true=>
      simp_all
  · cases h
theorem XI {F:Int->Bool} {args:List Value} {v:Value} (h:DM F args=some v):∃r, args= [.int .i32 r]/\-2147483648<=r/\r<=2147483647/\v= .bool (F r):=by
  unfold DM at h
  grind
theorem anJ (bd:th W) (f:FuncId) (args:List Value) (H:Ab.ar) (v:Value) (h:PC.kx f args H=some v):@Ab.xE (Ab.np W) Tryz.prog f args H v:=by
  have h:cond (Nat.beq f 123) (Kp args) (cond (Nat.beq f 156) (DM isLetterU args) (cond (Nat.beq f 157) (DM isDigitU args) none))=some v:=h
  cases h1:Nat.beq f 123 with
  | true=>
    rw [h1]at h
    obtain rfl:=eq_of_beq_eq_true h1
    obtain⟨s, rfl, aw, rfl⟩:=anI h
    exact anw bd aw H
  | false=>
  rw [h1]at h
  cases h2:Nat.beq f 156 with
  | true=>
    rw [h2]at h
    obtain rfl:=eq_of_beq_eq_true h2
    obtain⟨r, rfl, a, b, rfl⟩:=XI h
    exact anj bd.p bd.l a b H
  | false=>
  rw [h2]at h
  cases aB:Nat.beq f 157 with
  | true=>
    rw [aB]at h
    obtain rfl:=eq_of_beq_eq_true aB
    obtain⟨r, rfl, a, b, rfl⟩:=XI h
    exact ank bd.d a b H
  | false=>rw [aB]at h;cases h
theorem good:Ab.Jb Tryz.prog=true:=by kernel_rfl
end Seal
namespace Go.Proofs
open Go.RowKit Go.Shelf Go.Lib
set_option maxRecDepth 100000
def Tryz.Bv:Ren:=
{f:=fun x=>
    match x with
    | 204=>160
    | 262=>214
    | 274=>264
    | 275=>265
    | 313=>244
    | n=>n,
  t:=fun x=>
    match x with
    | 46=>75
    | 51=>338
    | 160=>405
    | 162=>382
    | 203=>380
    | 206=>432
    | 208=>434
    | n=>n,
  g:=fun x=>
    match x with
    | 13=>3
    | n=>n}
theorem Tryz.XJ:Lays.n204 Tryz.prog Tryz.Bv:=
{mixed:=Eq.refl true,
  f204:=Eq.trans Tryz.func160 (congrArg some (Eq.refl (Body.n204 Tryz.Bv))),
  f262:=Eq.trans Tryz.func214 (congrArg some (Eq.refl (Body.n262 Tryz.Bv))),
  f274:=Eq.trans Tryz.func264 (congrArg some (Eq.refl (Body.n274 Tryz.Bv))),
  f275:=Eq.trans Tryz.func265 (congrArg some (Eq.refl (Body.n275 Tryz.Bv))),
  f313:=Eq.trans Tryz.func244 (congrArg some (Eq.refl (Body.n313 Tryz.Bv))),
  t0:=Tryz.underlying0,
  a0:=Tryz.isAgg0,
  z0:=Tryz.sizeOf0,
  v0:=Tryz.zeroValue0,
  t3:=Tryz.underlying3,
  a3:=Tryz.isAgg3,
  z3:=Tryz.sizeOf3,
  v3:=Tryz.zeroValue3,
  t4:=Tryz.underlying4,
  a4:=Tryz.isAgg4,
  z4:=Tryz.sizeOf4,
  v4:=Tryz.zeroValue4,
  t21:=Tryz.underlying21,
  a21:=Tryz.isAgg21,
  z21:=Tryz.sizeOf21,
  v21:=Tryz.zeroValue21,
  t46:=Tryz.underlying75,
  a46:=Tryz.isAgg75,
  z46:=Tryz.sizeOf75,
  v46:=Tryz.zeroValue75,
  t51:=Tryz.underlying338,
  a51:=Tryz.isAgg338,
  z51:=Tryz.sizeOf338,
  v51:=Tryz.zeroValue338,
  t160:=Tryz.underlying405,
  a160:=Tryz.isAgg405,
  z160:=Tryz.sizeOf405,
  v160:=Tryz.zeroValue405,
  t162:=Tryz.underlying382,
  a162:=Tryz.isAgg382,
  z162:=Tryz.sizeOf382,
  v162:=Tryz.zeroValue382,
  t203:=Tryz.underlying380,
  a203:=Tryz.isAgg380,
  z203:=Tryz.sizeOf380,
  v203:=Tryz.zeroValue380,
  t206:=Tryz.underlying432,
  a206:=Tryz.isAgg432,
  z206:=Tryz.sizeOf432,
  v206:=Tryz.zeroValue432,
  t208:=Tryz.underlying434,
  a208:=Tryz.isAgg434,
  z208:=Tryz.sizeOf434,
  v208:=Tryz.zeroValue434,
  g13:=by kernel_rfl}
def Tryz.Gi:Ren:=
{f:=fun x=>
    match x with
    | 167=>178
    | 168=>179
    | 240=>223
    | 242=>224
    | 276=>249
    | 278=>250
    | n=>n,
  t:=fun x=>
    match x with
    | 37=>22
    | 46=>75
    | 51=>338
    | 70=>301
    | 72=>303
    | 75=>306
    | 80=>310
    | 164=>386
    | n=>n,
  g:=fun x=>
    match x with
    | n=>n}
theorem Tryz.anK:Lays.n167 Tryz.prog Tryz.Gi:=
{mixed:=Eq.refl true,
  f167:=Eq.trans Tryz.func178 (congrArg some (Eq.refl (Body.n167 Tryz.Gi))),
  f240:=Eq.trans Tryz.func223 (congrArg some (Eq.refl (Body.n240 Tryz.Gi))),
  f276:=Eq.trans Tryz.func249 (congrArg some (Eq.refl (Body.n276 Tryz.Gi))),
  t0:=Tryz.underlying0,
  a0:=Tryz.isAgg0,
  z0:=Tryz.sizeOf0,
  v0:=Tryz.zeroValue0,
  t4:=Tryz.underlying4,
  a4:=Tryz.isAgg4,
  z4:=Tryz.sizeOf4,
  v4:=Tryz.zeroValue4,
  t5:=Tryz.underlying5,
  a5:=Tryz.isAgg5,
  z5:=Tryz.sizeOf5,
  v5:=Tryz.zeroValue5,
  t9:=Tryz.underlying9,
  a9:=Tryz.isAgg9,
  z9:=Tryz.sizeOf9,
  v9:=Tryz.zeroValue9,
  t20:=Tryz.underlying20,
  a20:=Tryz.isAgg20,
  z20:=Tryz.sizeOf20,
  v20:=Tryz.zeroValue20,
  t37:=Tryz.underlying22,
  a37:=Tryz.isAgg22,
  z37:=Tryz.sizeOf22,
  v37:=Tryz.zeroValue22,
  t70:=Tryz.underlying301,
  a70:=Tryz.isAgg301,
  z70:=Tryz.sizeOf301,
  v70:=Tryz.zeroValue301,
  t72:=Tryz.underlying303,
  a72:=Tryz.isAgg303,
  z72:=Tryz.sizeOf303,
  v72:=Tryz.zeroValue303,
  t75:=Tryz.underlying306,
  a75:=Tryz.isAgg306,
  z75:=Tryz.sizeOf306,
  v75:=Tryz.zeroValue306,
  t164:=Tryz.underlying386,
  a164:=Tryz.isAgg386,
  z164:=Tryz.sizeOf386,
  v164:=Tryz.zeroValue386}
def Tryz.Bw:Ren:=
{f:=fun x=>
    match x with
    | 167=>178
    | 168=>179
    | 240=>223
    | 242=>224
    | 276=>249
    | 278=>250
    | n=>n,
  t:=fun x=>
    match x with
    | 37=>22
    | 46=>75
    | 51=>338
    | 70=>301
    | 72=>303
    | 75=>306
    | 80=>310
    | 164=>386
    | n=>n,
  g:=fun x=>
    match x with
    | n=>n}
theorem Tryz.anL:Lays.n168 Tryz.prog Tryz.Bw:=
{mixed:=Eq.refl true,
  f168:=Eq.trans Tryz.func179 (congrArg some (Eq.refl (Body.n168 Tryz.Bw))),
  f240:=Eq.trans Tryz.func223 (congrArg some (Eq.refl (Body.n240 Tryz.Bw))),
  f242:=Eq.trans Tryz.func224 (congrArg some (Eq.refl (Body.n242 Tryz.Bw))),
  f276:=Eq.trans Tryz.func249 (congrArg some (Eq.refl (Body.n276 Tryz.Bw))),
  f278:=Eq.trans Tryz.func250 (congrArg some (Eq.refl (Body.n278 Tryz.Bw))),
  t0:=Tryz.underlying0,
  a0:=Tryz.isAgg0,
  z0:=Tryz.sizeOf0,
  v0:=Tryz.zeroValue0,
  t3:=Tryz.underlying3,
  a3:=Tryz.isAgg3,
  z3:=Tryz.sizeOf3,
  v3:=Tryz.zeroValue3,
  t4:=Tryz.underlying4,
  a4:=Tryz.isAgg4,
  z4:=Tryz.sizeOf4,
  v4:=Tryz.zeroValue4,
  t5:=Tryz.underlying5,
  a5:=Tryz.isAgg5,
  z5:=Tryz.sizeOf5,
  v5:=Tryz.zeroValue5,
  t9:=Tryz.underlying9,
  a9:=Tryz.isAgg9,
  z9:=Tryz.sizeOf9,
  v9:=Tryz.zeroValue9,
  t20:=Tryz.underlying20,
  a20:=Tryz.isAgg20,
  z20:=Tryz.sizeOf20,
  v20:=Tryz.zeroValue20,
  t21:=Tryz.underlying21,
  a21:=Tryz.isAgg21,
  z21:=Tryz.sizeOf21,
  v21:=Tryz.zeroValue21,
  t37:=Tryz.underlying22,
  a37:=Tryz.isAgg22,
  z37:=Tryz.sizeOf22,
  v37:=Tryz.zeroValue22,
  t46:=Tryz.underlying75,
  a46:=Tryz.isAgg75,
  z46:=Tryz.sizeOf75,
  v46:=Tryz.zeroValue75,
  t51:=Tryz.underlying338,
  a51:=Tryz.isAgg338,
  z51:=Tryz.sizeOf338,
  v51:=Tryz.zeroValue338,
  t70:=Tryz.underlying301,
  a70:=Tryz.isAgg301,
  z70:=Tryz.sizeOf301,
  v70:=Tryz.zeroValue301,
  t72:=Tryz.underlying303,
  a72:=Tryz.isAgg303,
  z72:=Tryz.sizeOf303,
  v72:=Tryz.zeroValue303,
  t75:=Tryz.underlying306,
  a75:=Tryz.isAgg306,
  z75:=Tryz.sizeOf306,
  v75:=Tryz.zeroValue306,
  t164:=Tryz.underlying386,
  a164:=Tryz.isAgg386,
  z164:=Tryz.sizeOf386,
  v164:=Tryz.zeroValue386}
def Tryz.PD:Ren:=
{f:=fun x=>
    match x with
    | 169=>180
    | n=>n,
  t:=fun x=>
    match x with
    | 37=>22
    | 70=>301
    | 72=>303
    | 127=>353
    | n=>n,
  g:=fun x=>
    match x with
    | n=>n}
theorem Tryz.anM:Lays.n169 Tryz.prog Tryz.PD:=
{mixed:=Eq.refl true,
  f169:=Eq.trans Tryz.func180 (congrArg some (Eq.refl (Body.n169 Tryz.PD))),
  t0:=Tryz.underlying0,
  a0:=Tryz.isAgg0,
  z0:=Tryz.sizeOf0,
  v0:=Tryz.zeroValue0,
  t3:=Tryz.underlying3,
  a3:=Tryz.isAgg3,
  z3:=Tryz.sizeOf3,
  v3:=Tryz.zeroValue3,
  t9:=Tryz.underlying9,
  a9:=Tryz.isAgg9,
  z9:=Tryz.sizeOf9,
  v9:=Tryz.zeroValue9,
  t37:=Tryz.underlying22,
  a37:=Tryz.isAgg22,
  z37:=Tryz.sizeOf22,
  v37:=Tryz.zeroValue22,
  t70:=Tryz.underlying301,
  a70:=Tryz.isAgg301,
  z70:=Tryz.sizeOf301,
  v70:=Tryz.zeroValue301,
  t72:=Tryz.underlying303,
  a72:=Tryz.isAgg303,
  z72:=Tryz.sizeOf303,
  v72:=Tryz.zeroValue303,
  t127:=Tryz.underlying353,
  a127:=Tryz.isAgg353,
  z127:=Tryz.sizeOf353,
  v127:=Tryz.zeroValue353}
theorem Tryz.anN:Builder.Extra Tryz.prog Tryz.Gi where
  sizeBuilder:=by rfl
  liesBuilder:=by rfl
  t5:=Tryz.underlying5
  a5:=Tryz.isAgg5
  z5:=Tryz.sizeOf5
  v5:=Tryz.zeroValue5
  infoByte:=by rfl
  cellsByte:=by rfl
  sizeByte:=by rfl
  neB5:=by decide
theorem Tryz.anO:Builder.Extra Tryz.prog Tryz.Bw where
  sizeBuilder:=by rfl
  liesBuilder:=by rfl
  t5:=Tryz.underlying5
  a5:=Tryz.isAgg5
  z5:=Tryz.sizeOf5
  v5:=Tryz.zeroValue5
  infoByte:=by rfl
  cellsByte:=by rfl
  sizeByte:=by rfl
  neB5:=by decide
theorem Tryz.anP:Builder.Extra Tryz.prog Tryz.PD where
  sizeBuilder:=by rfl
  liesBuilder:=by rfl
  t5:=Tryz.underlying5
  a5:=Tryz.isAgg5
  z5:=Tryz.sizeOf5
  v5:=Tryz.zeroValue5
  infoByte:=by rfl
  cellsByte:=by rfl
  sizeByte:=by rfl
  neB5:=by decide
theorem Tryz.anQ (B b:Nat) (bs:List Value) (c:Int) (w:World) (h:Lib.IsBuilderF 303 5 B b bs w) (hlen:bs.length+1<=140737488355328) (Gj:B<=w.heap.size):
    Calls Tryz.prog 178 #[.pointer (some ⟨b, 0, none⟩),.int .u8 c] w fun e aV=>e= .returned .nilIface/\(Lib.BuilderAtF 303 5 B b (.pointer (some ⟨b, 0, none⟩)) (bs++ [.int .u8 c]) aV/\Below B w aV/\Lib.OthersKept 5 (some b) w aV):=Any.Builder_WriteByte_k Tryz.anK Tryz.anN B b bs c w h hlen Gj
theorem Tryz.anR (B b:Nat) (bs:List Value) (r:Int) (xC:-2147483648<=r) (om:r<=2147483647) (w:World) (h:Lib.IsBuilderF 303 5 B b bs w) (hlen:bs.length+4<=140737488355328) (Gj:B<=w.heap.size):
    Calls Tryz.prog 179 #[.pointer (some ⟨b, 0, none⟩),.int .i32 r] w fun e aV=>e= .returned (.tuple #[.int .i64 (Lib.runeCells r).length,.nilIface])/\(Lib.BuilderAtF 303 5 B b (.pointer (some ⟨b, 0, none⟩)) (bs++Lib.runeCells r) aV/\Below B w aV/\Lib.OthersKept 5 (some b) w aV):=Any.Builder_WriteRune_k Tryz.anL Tryz.anO B b bs r xC om w h hlen Gj
theorem Tryz.anS (B b:Nat) (l:List UInt8) (w:World) (h:Lib.IsBuilderF 303 5 B b (Lib.byteCells l) w) (Gj:B<=w.heap.size):
    Calls Tryz.prog 180 #[.pointer (some ⟨b, 0, none⟩)] w fun e aV=>e= .returned (.string ⟨l.toArray⟩)/\(Lib.IsBuilderF 303 5 B b (Lib.byteCells l) aV/\Below B w aV/\Lib.OthersKept 5 (some b) w aV):=Any.Builder_String_any_k Tryz.anM Tryz.anP B b l w h Gj
theorem Tryz.anT (r:Int) (w:World) (hV:CaseVar 3 caseA w):
    Calls Tryz.prog 160 #[.int .i32 r] w fun e aV=>e= .returned (.int .i32 (toLowerU r))/\∃q, aV=w.drewN q:=Any.unicode_ToLower_laid Tryz.XJ r w hV
end Go.Proofs
namespace Seal
open Go Go.Lib Go.Proofs Go.RowKit
structure ti (w:World):Prop where
  t:th w
  c:CaseVar 3 caseA w
theorem ti.below {w aV:World} (h:ti w) (an:Below w.heap.size w aV):ti aV:=by
  refine⟨h.t.below an, ?_⟩
  have mY:∀a v, w.cell? a=some v->aV.cell? a=some v:=fun a v bp=>by
    have dy:a.block<w.heap.size:=by
      grind[World.cell?]
    rw [an.cell dy];exact bp
  obtain⟨R, PE, cap, h1, h2⟩:=h.c
  refine⟨R, PE, cap, mY _ _ h1, fun i aq=>?_⟩
  obtain⟨c1, c2, a3, a4, a5⟩:=h2 i aq
  simp_all
theorem anU (r:Int) (aN:0<=r) (h1:r<=2147483647):-2147483648<=toLowerU r/\toLowerU r<=2147483647:=by
  rw [<- toLowerW_caseA]
  grind[Go.Proofs.Lib.toLowerW,toW,wrap32]
def Gk (s:ByteArray) (aZ:Nat):List UInt8:=if zt s aZ (Utf8.decode s aZ).1 then [s.get! aZ]else encodeRune (toLowerU (Utf8.decode s aZ).1)
def vz (s:ByteArray):Nat->Nat->List UInt8
  | 0, _=>[]
  | f+1, aZ=>if aZ<s.size then Gk s aZ++vz s f (aZ+(Utf8.decode s aZ).2)else []
theorem anV (s:ByteArray) (f aZ:Nat) (h:¬aZ<s.size):vz s f aZ= []:=by
  cases f with
  | zero=>rfl
  | succ f=>simp [vz, h]
def zu (s:ByteArray):ByteArray:=⟨(vz s s.size 0).toArray⟩
theorem anW (w:World) (q:Nat):Below w.heap.size w (w.drewN q):=⟨rfl, rfl, rfl, Nat.le_refl _, fun _ _=>rfl⟩
theorem XK (r:Int) (w:World) (hV:CaseVar 3 caseA w):Calls Tryz.prog 160 #[.int .i32 r] w fun e aV=>e= .returned (.int .i32 (toLowerU r))/\Below w.heap.size w aV:=
  (Tryz.anT r w hV).mono fun e aV ⟨he, q, aM⟩=>⟨he, aM▸anW w q⟩
set_option maxRecDepth 1000000 in
theorem anX (s:ByteArray) (w:World) (bd:ti w) (aw:s.size<=35184372088832):
    Calls Tryz.prog 122 #[.string s] w fun e aV=>e= .returned (.string (zu s))/\Below w.heap.size w aV:=by
  go_enter Tryz.func122, Tryz.ntmps122
  go_wp2
  go_loopw [] (fun wr=>∃(aZ l5:Nat) (hC:List UInt8), Lib.IsBuilderF 303 5 w.heap.size w.heap.size (Lib.byteCells hC) wr/\wr.heap[w.heap.size+1]? = some (.stringIter s aZ)/\Below w.heap.size w wr/\hC++vz s l5 aZ=vz s s.size 0/\s.size<=aZ+l5/\hC.length<=4*aZ) (fun wr=>s.size-wr.iterPos (w.heap.size+1))
  case atStart=>
    refine⟨0, s.size,[],(Lib.IsBuilderF.of (Lib.fresh_isBuilder 303 5 w)).alloc _, ?_,((Below.refl _ w).alloc (Nat.le_refl _) _).alloc (by simp) _, rfl, by omega, by simp⟩
    have:=World.iter_heap (w.alloc (.cells #[.pointer none,.slice none 0 0] 303)) s 0
    simp_all
  case round=>
    obtain⟨aZ, l5, hC, xK, Bx, XL, XM, XN, kD⟩:=hrel
    have fj:w.heap.size+1<wr.heap.size:=(Array.getElem?_eq_some_iff.1 Bx).1
    by_cases bS:aZ<s.size
    · have tV:∀cW,(Instr.next (.pointer (some ⟨w.heap.size+1, 0, none⟩)) true cW).run Tryz.prog wr=_:=fun cW=>Lib.run_next_any_at wr (w.heap.size+1) s aZ cW Bx bS
      have ans:=XE s aZ bS
      have qL:=decode_le s aZ
      have XO:=xK.iterAt Bx (aZ+(Utf8.decode s aZ).2)
      have PF:=Lib.iterAt_heap wr (w.heap.size+1) s aZ (aZ+(Utf8.decode s aZ).2) Bx
      have Kq:=Lib.below_iterAt XL (k:=w.heap.size+1) (by omega) s (aZ+(Utf8.decode s aZ).2)
      have aDn:w.heap.size<=(wr.iterAt (w.heap.size+1) s (aZ+(Utf8.decode s aZ).2)).heap.size:=by grind
      obtain⟨f, rfl⟩:∃f, l5=f+1:=⟨l5-1, by omega⟩
      generalize wr.iterAt (w.heap.size+1) s (aZ+(Utf8.decode s aZ).2)=dH at*
      have yX:ti dH:=bd.below Kq
      have dy:w.heap.size+1<dH.heap.size:=(Array.getElem?_eq_some_iff.1 PF).1
      have DL:Calls Tryz.prog 177 #[.string s,.int .i64 aZ,.int .i32 (Utf8.decode s aZ).1] dH fun e aV=>e= .returned (.bool (zt s aZ (Utf8.decode s aZ).1))/\Below dH.heap.size dH aV:=XD s aZ (Nat.le_of_lt bS) (Utf8.decode s aZ).1 dH yX.t.u
      obtain⟨eB, Gg⟩:∃eB, zt s aZ (Utf8.decode s aZ).1=eB:=⟨_, rfl⟩
      rw [Gg]at DL
      go_wp2_with fail
      refine DL.mono fun e e0 ⟨he, py⟩=>?_
      subst he
      have DN:Below w.heap.size w e0:=Kq.trans (py.mono Kq.size)
      have Gl:e0.heap[w.heap.size+1]? = some (.stringIter s (aZ+(Utf8.decode s aZ).2)):=by rw [py.block _ dy];exact PF
      have PG:=XO.below py
      have XP:ti e0:=bd.below DN
      have anY:w.heap.size<=e0.heap.size:=DN.size
      clear PF Kq py XO DL yX
      cases eB with
      | true=>
        go_wp2_with (go_at_call 178;refine(Tryz.anQ w.heap.size w.heap.size _ _ _ PG (by rw [Lib.byteCells_length];omega) anY).mono ?_)
        rintro e W1 ⟨rfl, h1, b1, ep⟩
        go_wp2
        go_roundw
        case rel=>
          refine⟨aZ+(Utf8.decode s aZ).2, f, hC++ [s.get! aZ], ?_, ep.iter Gl (by omega), DN.trans b1, ?_, by omega, by grind⟩
          · rw [Lib.byteCells_append]
            have anZ:s.get! aZ=s[aZ]'bS:=by cases s with|mk d=>exact getElem!_pos d aZ bS
            rw [anZ]
            exact Or.inr h1
          simp_all[vz,Gk]
        case measure=>
          simp only [World.iterPos, ep.iter Gl (by omega), Bx]
          omega
      | false=>
        have sf:=anU (Utf8.decode s aZ).1 (by omega) (by omega)
        have Km:=XK (Utf8.decode s aZ).1 e0 XP.c
        go_wp2_with fail
        refine Km.mono fun e ka ⟨he, x6⟩=>?_
        subst he
        have an0:w.heap.size+1<e0.heap.size:=(Array.getElem?_eq_some_iff.1 Gl).1
        have XQ:Below w.heap.size w ka:=DN.trans (x6.mono DN.size)
        have XR:ka.heap[w.heap.size+1]? = some (.stringIter s (aZ+(Utf8.decode s aZ).2)):=by rw [x6.block _ an0];exact Gl
        have an1:=PG.below x6
        have an2:w.heap.size<=ka.heap.size:=XQ.size
        clear Gl DN x6 PG Km XP
        go_wp2_with (go_at_call 179;refine(Tryz.anR w.heap.size w.heap.size _ _ sf.1 sf.2 _ an1 (by rw [Lib.byteCells_length];omega) an2).mono ?_)
        rintro e W1 ⟨rfl, h1, b1, ep⟩
        go_wp2
        go_roundw
        case rel=>
          have PH:=Lib.runeCells_le (toLowerU ((Utf8.decode s aZ).1:Int))
          rw [Lib.runeCells_length]at PH
          refine⟨aZ+(Utf8.decode s aZ).2, f, hC++Lib.encodeRune (toLowerU (Utf8.decode s aZ).1), ?_, ep.iter XR (by omega), XQ.trans b1, ?_, by omega, by grind⟩
          · rw [Lib.byteCells_append, Lib.byteCells_encodeRune];exact Or.inr h1
          simp_all[vz,Gk]
        case measure=>
          simp only [World.iterPos, ep.iter XR (by omega), Bx]
          omega
    · have tV:∀cW,(Instr.next (.pointer (some ⟨w.heap.size+1, 0, none⟩)) true cW).run Tryz.prog wr=_:=fun cW=>Lib.run_next_end_at wr (w.heap.size+1) s aZ cW Bx bS
      go_wp2_with (go_at_call 180;refine(Tryz.anS w.heap.size w.heap.size hC _ xK (by omega)).mono ?_)
      rintro e W1 ⟨rfl, _, b1, _⟩
      go_wp2
      go_ret
      rw [anV s l5 aZ bS, append_nil]at XM
      subst XM
      exact⟨rfl, XL.trans b1⟩
end Seal
namespace Seal
open Go Go.Lib Go.Shelf Go.Proofs Go.Proofs.YtifflnhooaophaaGreatDoor
variable {W:World}
theorem tabs2_of_reads (h1:VarReads Tryz.prog W "unicode/utf8.acceptRanges" Rows.laid_unicode_utf8_acceptRanges) (h2:VarReads Tryz.prog W "unicode.properties" Rows.laid_unicode_properties)
    (aB:VarReads Tryz.prog W "unicode.CaseRanges" Rows.laid_unicode_CaseRanges) (bk:VarReads Tryz.prog W "unicode.Digit" Rows.laid_unicode_Digit) (cj:VarReads Tryz.prog W "unicode.Letter" Rows.laid_unicode_Letter) (dh:VarReads Tryz.prog W "unicode/utf8.first" Rows.laid_unicode_utf8_first):ti W:=by
  refine⟨anH h1 h2 bk cj dh, ?_⟩
  have aB:VarReads Tryz.prog W "unicode.CaseRanges" Pinned.caseRanges:=aB
  rw [Pinned.caseRanges_eq]at aB
  exact caseVar_of_reads (ρ:=Tryz.Bv) {Tryz.XJ with} (by rfl) (by constructor<;>kernel_rfl) aB
theorem XS {P:Program} {B:Nat} {σ:Ab.cO} {h:Nat->Option Ab.Obj} {H:Ab.ar} {w W:World} (k:@Ab.gS (Ab.np W) P B σ h H w) {g:Nat} {T:Array CaseRow} (hV:CaseVar g T W):CaseVar g T w:=by
  obtain⟨R, PE, cap, h1, h2⟩:=hV
  refine⟨R, PE, cap, Ab.x5 k h1, fun i aq=>?_⟩
  obtain⟨c1, c2, a3, a4, a5⟩:=h2 i aq
  grind[Ab.x5]
theorem an3 {B:Nat} {σ:Ab.cO} {h:Nat->Option Ab.Obj} {H:Ab.ar} {w W:World} (k:@Ab.gS (Ab.np W) Tryz.prog B σ h H w) (bd:ti W):ti w:=⟨XH k bd.t, XS k bd.c⟩
theorem an4 (bd:ti W) {s:ByteArray} (aw:s.size<=35184372088832) (H:Ab.ar):@Ab.xE (Ab.np W) Tryz.prog 122 [.string s] H (.string (zu s)):=
  Ab.Gf rfl rfl ⟨_, _, Tryz.func122, rfl⟩ fun B σ h w k=>anX s w (an3 k bd) aw
theorem an5 (bd:ti W) (r:Int) (H:Ab.ar):@Ab.xE (Ab.np W) Tryz.prog 160 [.int .i32 r] H (.int .i32 (toLowerU r)):=
  Ab.Gf rfl rfl ⟨_, _, Tryz.func160, rfl⟩ fun B σ h w k=>XK r w (XS k bd.c)
def Kr (args:List Value):Option Value:=match args with
  | [.string s]=>cond (Nat.ble s.size 35184372088832) (some (.string (zu s))) none
  | _=>none
def Ks (args:List Value):Option Value:=match args with
  | [.int .i32 r]=>some (.int .i32 (toLowerU r))
  | _=>none
noncomputable def zv:Code:=Ab.xZ Tryz.prog 144 (Ab.amy 182 316 320 48)
noncomputable def Gm:Code:=Ab.xZ Tryz.prog 236 Ab.amx
noncomputable def zw:Code:=Ab.xZ Tryz.prog 127 (Ab.amE 182 316 59)
noncomputable abbrev DO:Ab.dX:=⟨fun f args H=>cond (Nat.beq f 122) (Kr args) (cond (Nat.beq f 160) (Ks args) (PC.kx f args H)), fun f=>cond (Nat.beq f 144) (some zv) (cond (Nat.beq f 236) (some Gm) (cond (Nat.beq f 127) (some zw) none))⟩
theorem an6 {args:List Value} {v:Value} (h:Kr args=some v):∃s, args= [.string s]/\s.size<=35184372088832/\v= .string (zu s):=by
  unfold Kr at h
  split at h
  · rename_i s
    cases an:Nat.ble s.size 35184372088832 with
    | false=>simp_all
    | true=>
      simp_all
  · cases h
theorem an7 {args:List Value} {v:Value} (h:Ks args=some v):∃r, args= [.int .i32 r]/\v= .int .i32 (toLowerU r):=by
  unfold Ks at h
  grind
theorem an8 (bd:ti W) (f:FuncId) (args:List Value) (H:Ab.ar) (v:Value) (h:DO.kx f args H=some v):@Ab.xE (Ab.np W) Tryz.prog f args H v:=by
  have h:cond (Nat.beq f 122) (Kr args) (cond (Nat.beq f 160) (Ks args) (PC.kx f args H))=some v:=h
  cases h1:Nat.beq f 122 with
  | true=>
    rw [h1]at h
    obtain rfl:=eq_of_beq_eq_true h1
    obtain⟨s, rfl, aw, rfl⟩:=an6 h
    exact an4 bd aw H
  | false=>
  rw [h1]at h
  cases h2:Nat.beq f 160 with
  | true=>
    rw [h2]at h
    obtain rfl:=eq_of_beq_eq_true h2
    obtain⟨r, rfl, rfl⟩:=an7 h
    exact an5 bd r H
  | false=>
  rw [h2]at h
  exact anJ bd.t f args H v h
end Seal
namespace Seal
open Go Go.Ab
variable {W:World}
noncomputable abbrev fL:Program:=Go.Proofs.Tryz.prog
noncomputable abbrev dP:Code:=xZ fL 144 id
noncomputable abbrev er:Code:=xZ fL 206 id
noncomputable abbrev vA:Code:=cV (cV dP)
noncomputable abbrev tj:Code:=dF (cV (dN vA))
noncomputable abbrev wK:Code:=cV (cV vA)
noncomputable abbrev XT:Code:=dN (cV vA)
noncomputable abbrev aQ:Code:=dF (cV (cV (dN wK)))
noncomputable abbrev oc:Oper:=iO (dN (cV dP)) 0
noncomputable abbrev lf:Oper:=iO (dN (cV dP)) 1
theorem an9 [hD]:Gd fL 206 (wI fL 206) 154 259 9 40 (.int .i64 192) (nN (dF (cV er))):=by
  have da:=Xz (P:=fL) (ne:=iO (dN er) 1) (t:=(match (iO (dN er) 1).op with| .binOp _ t _ _ _=>t|_=>0)) (yt:=(match (iO (dN er) 1).op with| .binOp _ _ _ _ t=>t|_=>0)) (ms:= #[]) (by rfl) (by rfl)
  refine⟨DI (by rfl),⟨mX (dN er), mX (dF (cV er)), iO (dN er) 0, iO (dN er) 1, by rfl, Xy (tys:=(DJ (iO (dN er) 0)).argTypes) (by rfl), by rfl, by rfl, by rfl, by rfl, da.1, da.2⟩, by rfl, ?_,⟨⟨iO (dF (cV er)) 0, iO (dF (cV er)) 1, iO (dF (cV er)) 2, iO (dF (cV er)) 3, by rfl,⟨by rfl, by rfl, by rfl⟩,⟨by rfl, by rfl, by rfl⟩,⟨by rfl, by rfl, by rfl⟩,⟨by rfl, by rfl, by rfl⟩⟩, by rfl⟩⟩
  simp_all[wI,I8]
theorem XU:Bq fL 154 259 9 40 (.int .i64 192) 2 44 45 46 (nN (dN aQ)).toList:=
  ⟨⟨iO (dN aQ) 0, iO (dN aQ) 1, iO (dN aQ) 2, iO (dN aQ) 3, by rfl,⟨by rfl, by rfl, by rfl⟩,⟨by rfl, by rfl, by rfl⟩,⟨by rfl, by rfl, by rfl⟩,⟨by rfl, by rfl, by rfl⟩⟩, by rfl⟩
theorem Kt [hD] {bg:hz} {R:Code} {i:Nat} {bf:Array Oper} (h:R= .seq (.region i bf false) .ret) (T:List Value) (H:ar) (o:dY) (U:(dn fL true R).f bg T H=some o):o.cJ= .ret/\∃bZ, jd fL bg bf.toList bf.toList T H=some bZ/\bZ.H=o.H:=by
  subst h
  have U:mO (jd fL bg bf.toList bf.toList T H) (fun T H=>some ⟨.ret, T, H⟩)=some o:=U
  obtain⟨bZ, h1, h2⟩:=so U
  rcases h2 with⟨_, h2⟩|⟨al, rfl⟩
  · grind
  · exfalso
    have:∀(l:List Oper) (T:List Value) (H:ar), jd fL bg bf.toList l T H=some o->o.cJ= .normal:=by
      intro l
      induction l with
      | nil=>intro T H h;cases h;rfl
      | cons x l a7=>
        intro T H h
        have h:gw fL bg x ((ia bf.toList x.guard).f T) T H (jd fL bg bf.toList l)=some o:=h
        unfold gw at h
        grind
    simp_all
theorem XV [hD] {bg:hz} {all l:List Oper} {tt e9 f cR:Nat} {kv:Value} {s b c d:Nat} (h:Bq fL tt e9 f cR kv s b c d l) (T:List Value) (H:ar) (o:dY) (U:jd fL bg all l T H=some o):∃v,(nI fL tt).f (b4 T s) H=some (v, H):=by
  obtain⟨⟨bZ, dr, hn, fr, rfl,⟨c1, c2, a3⟩, _⟩, _⟩:=h
  have U:gw fL bg bZ ((ia all bZ.guard).f T) T H (jd fL bg all [dr, hn, fr])=some o:=U
  rw [a3]at U
  have U:gw fL bg bZ true T H (jd fL bg all [dr, hn, fr])=some o:=U
  unfold gw at U
  simp only at U
  rw [JZ c1]at U
  grind[Pg]
noncomputable abbrev ma:Nat:=48
theorem zr:fL.underlying fL.rt.typeAssertionError=some (.pointer (match fL.underlying fL.rt.typeAssertionError with|some (.pointer e)=>e|_=>0)):=by rfl
noncomputable abbrev aoa:TypeDesc:=(fL.underlying 316).getD .bool
noncomputable abbrev aob:TypeDesc:=(fL.underlying 320).getD .bool
theorem Ku:fL.underlying 316=some aoa:=by rfl
theorem XW:fL.underlying 320=some aob:=by rfl
def aoc:TypeDesc->Bool| .interface _=>true|_=>false
theorem DP {iL:TypeDesc} (h:aoc iL=false):∀ms, iL≠ .interface ms:=by rintro ms rfl;cases h
theorem aod [hD] [dX] (dA:c8 fL) {bg:hz} (bE:h3 fL bg):qi fL bg 2 ma aQ (cV (cV zv)) vA:=by
  have ic:vA= .seq (.seq (dN (dN vA)) (.cond (Xx (cV (dN vA))) tj .skip)) (.seq XT wK):=by rfl
  have bb:cV (cV zv)= .seq (.seq (dN (dN vA)) (.cond (Xx (cV (dN vA))) (xY oc 1 182 316 ma tj aQ) .skip)) (.seq XT (xY oc 1 182 320 ma wK aQ)):=by rfl
  have By:aQ= .seq (.region (mX (dN aQ)) (nN (dN aQ)) false) .ret:=by rfl
  have zx:∀T H o,(dn fL true aQ).f bg T H=some o->o.cJ= .ret:=fun T H o h=>(Kt By T H o h).1
  have um:∀T H o,(dn fL true aQ).f bg T H=some o->∃v,(nI fL 154).f (b4 T 2) H=some (v, H):=by
    grind[Kt,XV,XU]
  rw [bb, ic]
  refine qi.seq bE zx (mW.seq bE zx (mW.plain dA bE (by rfl) (by rfl) (by rfl) (by rfl)) (mW.cond ?_ (mW.plain dA bE rfl rfl rfl rfl))) (qi.seq bE zx (mW.plain dA bE (by rfl) (by rfl) (by rfl) (by rfl)) ?_)
  · refine mW.guard (tt:=154) dA bE zx um Ku (DP (by rfl)) (by rfl) (by rfl) (by rfl) (by rfl) (by decide) ?_
    have dZ:tj= .seq (.region (mX (dN tj)) (nN (dN tj)) true) .ret:=by rfl
    rw [dZ]
    refine qY.seq (qY.any (t:=182) (y:=14) (p:=3) (m:=2) (harm:=[0, 1, 2]) (o:=iO (dN tj) 3) dA bE zr Ku (DP (by rfl)) (by rfl) (by rfl) (by rfl) (by decide) ?_ (by kernel_rfl))
    intro i aq
    rcases mem_cons.1 aq with rfl|aq
    · exact⟨iO (dN tj) 0, 12, by rfl, by rfl, by rfl, by decide, by decide,.inr ⟨by rfl, by decide, by decide⟩⟩
    rcases mem_cons.1 aq with rfl|aq
    · exact⟨iO (dN tj) 1, 13, by rfl, by rfl, by rfl, by decide, by decide,.inr ⟨by rfl, by decide, by decide⟩⟩
    rcases mem_cons.1 aq with rfl|aq
    · exact⟨iO (dN tj) 2, 14, by rfl, by rfl, by rfl, by decide, by decide,.inl ⟨by rfl, rfl, rfl⟩⟩
    cases aq
  · refine qi.guard (tt:=154) dA bE zx um XW (DP (by rfl)) (by rfl) (by decide) ?_
    have dZ:wK= .seq (.seq (.region (mX (dN (dN wK))) (nN (dN (dN wK))) false) (cV (dN wK))) (cV wK):=by rfl
    rw [dZ]
    exact qY.seq (qY.seq (qY.Xg (t:=182) (y:=31) (m:=iO (dN (dN wK)) 0) (o:=iO (dN (dN wK)) 1) dA bE zr XW (DP (by rfl)) (by rfl) (by rfl) (by rfl) (by rfl) (by rfl) (by rfl) (by rfl) (by decide)))
theorem aoe [hD] [dX] (dA:c8 fL):Dd fL 144 zv:=by
  have e:zv= .seq (.region (mX (dN dP)) (nN (dN dP)) false) (.seq (.region (mX (dN (cV dP))) #[oc] false) (cV (cV zv))):=by rfl
  have By:aQ= .seq (.region (mX (dN aQ)) (nN (dN aQ)) false) .ret:=by rfl
  rw [e]
  refine Xq (g:=206) (t:=6) (s:=2) (k:=ma) (b:=44) (c:=45) (d:=46) (fn:=wI fL 144) (i1:=mX (dN (cV dP))) (i9:=mX (dN aQ)) (ops9:=nN (dN aQ)) (mk:=oc) (D:=lf) (cc:=DJ lf) (Bc:=vA) dA (DI (by rfl)) (by rfl) (by rfl) (by rfl) (by rfl) (by rfl) (by rfl) (by rfl) (by rfl) (by rfl) (le_of_ble_eq_true (by rfl)) (le_of_ble_eq_true (by rfl)) (le_of_ble_eq_true (by rfl)) (by decide) (by decide) (by rfl) (by rfl) an9 XU (by decide) (by decide) (by decide) (by rfl) ?_
  intro bg bE
  rw [<- By]
  exact aod dA bE
noncomputable abbrev Gn:Code:=xZ fL 236 id
noncomputable abbrev a4:Code:=dN (cV (cV (cV Gn)))
noncomputable abbrev a5:Code:=dN (cV (cV (cV (cV Gn))))
noncomputable abbrev Kv:Oper:=iO a4 5
noncomputable def aof (bf:Array Oper) (l:List Operand):Bool:=l.all fun x=>match x with| .tmp i=>(sd fL bf.toList).all fun o=>o.1.dst !=some i|_=>false
theorem aog {bf:Array Oper} {l:List Operand} (h:aof bf l=true):∀x∈l, ∃i, x= .tmp i/\∀o∈sd fL bf.toList, o.1.dst≠some i:=by
  intro x al
  have h1:=all_eq_true.1 h x al
  grind
theorem aoh (dA:c8 fL) [hD]:@Dd _ DO fL 236 Gm:=by
  letI:=DO
  have e:Gm= .seq (dN Gn) (.seq (dN (cV Gn)) (.seq (dN (cV (cV Gn))) (.seq (.region (mX a4) ((nN a4).toList.take 5).toArray false) (.seq (.region (mX a5) (nN a5) true) (.seq (.region (mX a4) #[{Kv with op:=.call (DJ Kv), dst:=none}] false) .ret))))):=by rfl
  rw [e]
  exact al9 (i4:=mX a4) (ops4:=nN a4) (g:=261) (fn:=wI fL 236) (gn:=wI fL 261) (gc:=xZ fL 261 id) (D:=Kv) (cc:=DJ Kv) dA (DI (by rfl)) (by rfl) (by rfl) (by rfl) (by rfl) (by rfl) (fun o bC=>by
    have:∀o∈(nN a4).toList.take 5, o.guard=none:=by
      have h:((nN a4).toList.take 5).all (fun o=>o.guard.isNone)=true:=by rfl
      simp_all
    simp_all) (by rfl) (by rfl) (by rfl) (by rfl) rfl (by rfl) rfl (aog (by rfl)) (DI (by rfl)) (by rfl) (by rfl) (fun args H=>rfl) rfl
noncomputable abbrev Bz:Code:=xZ fL 127 id
noncomputable abbrev tk:Code:=xZ fL 184 id
noncomputable abbrev DQ:Code:=cV (cV Bz)
noncomputable abbrev x7:Code:=cV DQ
noncomputable abbrev kF:Code:=dF (cV (dN (cV x7)))
noncomputable abbrev PI:Oper:=iO (dN (cV Bz)) 0
noncomputable abbrev XX:Oper:=iO (dN (cV Bz)) 1
theorem aoi [hD]:Gd fL 184 (wI fL 184) 152 244 7 40 (.int .i64 192) (nN (dF (cV tk))):=by
  have da:=Xz (P:=fL) (ne:=iO (dN tk) 1) (t:=(match (iO (dN tk) 1).op with| .binOp _ t _ _ _=>t|_=>0)) (yt:=(match (iO (dN tk) 1).op with| .binOp _ _ _ _ t=>t|_=>0)) (ms:= #[]) (by rfl) (by rfl)
  refine⟨DI (by rfl),⟨mX (dN tk), mX (dF (cV tk)), iO (dN tk) 0, iO (dN tk) 1, by rfl, Xy (tys:=(DJ (iO (dN tk) 0)).argTypes) (by rfl), by rfl, by rfl, by rfl, by rfl, da.1, da.2⟩, by rfl, ?_,⟨⟨iO (dF (cV tk)) 0, iO (dF (cV tk)) 1, iO (dF (cV tk)) 2, iO (dF (cV tk)) 3, by rfl,⟨by rfl, by rfl, by rfl⟩,⟨by rfl, by rfl, by rfl⟩,⟨by rfl, by rfl, by rfl⟩,⟨by rfl, by rfl, by rfl⟩⟩, by rfl⟩⟩
  simp_all[wI,I8]
theorem XY:Bq fL 152 244 7 40 (.int .i64 192) 2 52 53 54 (nN (dN kF)).toList:=
  ⟨⟨iO (dN kF) 0, iO (dN kF) 1, iO (dN kF) 2, iO (dN kF) 3, by rfl,⟨by rfl, by rfl, by rfl⟩,⟨by rfl, by rfl, by rfl⟩,⟨by rfl, by rfl, by rfl⟩,⟨by rfl, by rfl, by rfl⟩⟩, by rfl⟩
theorem aoj [hD] [dX] (dA:c8 fL) {bg:hz} (bE:h3 fL bg):qi fL bg 2 59 kF (cV (cV zw)) DQ:=by
  have ic:DQ= .seq (dN DQ) x7:=by rfl
  have bb:cV (cV zw)= .seq (dN DQ) (xY PI 1 182 316 59 x7 kF):=by rfl
  have By:kF= .seq (.region (mX (dN kF)) (nN (dN kF)) false) .ret:=by rfl
  have zx:∀T H o,(dn fL true kF).f bg T H=some o->o.cJ= .ret:=fun T H o h=>(Kt By T H o h).1
  have um:∀T H o,(dn fL true kF).f bg T H=some o->∃v,(nI fL 152).f (b4 T 2) H=some (v, H):=by
    grind[Kt,XV,XY]
  rw [bb, ic]
  refine qi.seq bE zx (mW.plain dA bE (by rfl) (by rfl) (by rfl) (by rfl)) ?_
  refine qi.guard (tt:=152) dA bE zx um Ku (DP (by rfl)) (by rfl) (by decide) ?_
  have dZ:x7= .seq (.region (mX (dN x7)) (nN (dN x7)) false) (cV x7):=by rfl
  rw [dZ]
  exact qY.seq (qY.Xg (t:=182) (y:=29) (m:=iO (dN x7) 0) (o:=iO (dN x7) 1) dA bE zr Ku (DP (by rfl)) (by rfl) (by rfl) (by rfl) (by rfl) (by rfl) (by rfl) (by rfl) (by decide))
theorem aok [hD] [dX] (dA:c8 fL):Dd fL 127 zw:=by
  have e:zw= .seq (.region (mX (dN Bz)) (nN (dN Bz)) false) (.seq (.region (mX (dN (cV Bz))) #[PI] false) (cV (cV zw))):=by rfl
  have By:kF= .seq (.region (mX (dN kF)) (nN (dN kF)) false) .ret:=by rfl
  rw [e]
  refine Xq (g:=184) (t:=7) (s:=2) (k:=59) (b:=52) (c:=53) (d:=54) (fn:=wI fL 127) (i1:=mX (dN (cV Bz))) (i9:=mX (dN kF)) (ops9:=nN (dN kF)) (mk:=PI) (D:=XX) (cc:=DJ XX) (Bc:=DQ) dA (DI (by rfl)) (by rfl) (by rfl) (by rfl) (by rfl) (by rfl) (by rfl) (by rfl) (by rfl) (by rfl) (le_of_ble_eq_true (by rfl)) (le_of_ble_eq_true (by rfl)) (le_of_ble_eq_true (by rfl)) (by decide) (by decide) (by rfl) (by rfl) aoi XY (by decide) (by decide) (by decide) (by rfl) ?_
  intro bg bE
  rw [<- By]
  exact aoj dA bE
theorem orcS2_ok (bd:ti W):@FE (np W) DO fL:=by
  letI:=np W
  letI:=DO
  have dA:=Vw good
  refine⟨an8 bd, fun f c h=>?_⟩
  have h:cond (Nat.beq f 144) (some zv) (cond (Nat.beq f 236) (some Gm) (cond (Nat.beq f 127) (some zw) none))=some c:=h
  cases h1:Nat.beq f 144 with
  | true=>
    rw [h1]at h
    obtain rfl:=eq_of_beq_eq_true h1
    cases h
    exact aoe dA
  | false=>
  rw [h1]at h
  cases h2:Nat.beq f 236 with
  | true=>
    rw [h2]at h
    obtain rfl:=eq_of_beq_eq_true h2
    cases h
    exact aoh dA
  | false=>
  rw [h2]at h
  cases aB:Nat.beq f 127 with
  | true=>
    rw [aB]at h
    obtain rfl:=eq_of_beq_eq_true aB
    cases h
    exact aok dA
  | false=>rw [aB]at h;cases h
end Seal
