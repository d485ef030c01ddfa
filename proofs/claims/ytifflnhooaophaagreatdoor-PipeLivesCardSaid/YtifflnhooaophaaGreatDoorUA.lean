/- texts of the nf, fh behind the mA -/
import Derived.Test.YtifflnhooaophaaGreatDoorProg
import Derived.WalkKit
import Derived.KernelRfl
import Derived.Shelf.Unicode.PredsPay
import Derived.Shelf.Unicode.DecodeAny
import Derived.Lib.OthersKept
import Derived.Test.YtifflnhooaophaaGreatDoorRows
import Derived.PinnedBridge
import Derived.Lib.LaidU8T
import Derived.Lib.LaidRTab
import Derived.Lib.LaidTab
import Derived.BigCall
import Derived.Shelf.Strings.BuilderK
import Derived.Shelf.Strings.BuilderRune
import Derived.Shelf.Unicode.CaseLaid
import Derived.Lib.RuneBytes
import Derived.Shelf.Strings.MapGrows
import Derived.Lib.LaidCase
import Derived.Test.YtifflnhooaophaaGreatDoorAbD
set_option linter.unusedVariables false
set_option linter.unusedSimpArgs false
set_option linter.unusedSectionVars false
set_option maxHeartbeats 4000000
open List Nat
namespace Go.Proofs
open Go.RowKit Go.Shelf Go.Lib
set_option maxRecDepth 100000
def Tryz.CY:Ren:=
{
  f:=fun x=>
    match x with
    | 198=>157
    | 261=>213
    | 311=>242
    | 312=>243
    | n=>n,
  t:=fun x=>
    match x with
    | 21=>21
    | 4=>4
    | 141=>341
    | 0=>0
    | 196=>373
    | 193=>370
    | 3=>3
    | 51=>338
    | 198=>375
    | 49=>47
    | 194=>371
    | 201=>378
    | 226=>403
    | 46=>75
    | 227=>404
    | n=>n,
  g:=fun x=>
    match x with
    | 5=>2
    | n=>n}
def Tryz.CZ:Ren:=
{
  f:=fun x=>
    match x with
    | 200=>156
    | 261=>213
    | 311=>242
    | 312=>243
    | n=>n,
  t:=fun x=>
    match x with
    | 21=>21
    | 4=>4
    | 51=>338
    | 5=>5
    | 119=>339
    | 0=>0
    | 141=>341
    | 196=>373
    | 193=>370
    | 3=>3
    | 198=>375
    | 49=>47
    | 194=>371
    | 201=>378
    | 226=>403
    | 46=>75
    | 227=>404
    | n=>n,
  g:=fun x=>
    match x with
    | 7=>0
    | 8=>1
    | n=>n}
def Tryz.HX:Ren:=
{
  f:=fun x=>
    match x with
    | 197=>222
    | 260=>248
    | n=>n,
  t:=fun x=>
    match x with
    | 9=>9
    | 21=>21
    | 3=>3
    | 4=>4
    | 5=>5
    | 105=>350
    | 119=>339
    | 0=>0
    | 46=>75
    | 139=>417
    | 138=>416
    | n=>n,
  g:=fun x=>
    match x with
    | 3=>4
    | 4=>5
    | n=>n}
theorem Tryz.Rf:Lays.n200 Tryz.prog Tryz.CZ:=
{mixed:=Eq.refl true, f200:=Eq.trans Tryz.func156 (congrArg some (Eq.refl (Body.n200 Tryz.CZ))),
  f261:=Eq.trans Tryz.func213 (congrArg some (Eq.refl (Body.n261 Tryz.CZ))),
  f311:=Eq.trans Tryz.func242 (congrArg some (Eq.refl (Body.n311 Tryz.CZ))),
  f312:=Eq.trans Tryz.func243 (congrArg some (Eq.refl (Body.n312 Tryz.CZ))), t0:=Tryz.underlying0,
  a0:=Tryz.isAgg0, z0:=Tryz.sizeOf0, v0:=Tryz.zeroValue0, t3:=Tryz.underlying3, a3:=Tryz.isAgg3,
  z3:=Tryz.sizeOf3, v3:=Tryz.zeroValue3, t4:=Tryz.underlying4, a4:=Tryz.isAgg4, z4:=Tryz.sizeOf4,
  v4:=Tryz.zeroValue4, t5:=Tryz.underlying5, a5:=Tryz.isAgg5, z5:=Tryz.sizeOf5, v5:=Tryz.zeroValue5,
  t21:=Tryz.underlying21, a21:=Tryz.isAgg21, z21:=Tryz.sizeOf21, v21:=Tryz.zeroValue21,
  t46:=Tryz.underlying75, a46:=Tryz.isAgg75, z46:=Tryz.sizeOf75, v46:=Tryz.zeroValue75,
  t49:=Tryz.underlying47, a49:=Tryz.isAgg47, z49:=Tryz.sizeOf47, v49:=Tryz.zeroValue47,
  t51:=Tryz.underlying338, a51:=Tryz.isAgg338, z51:=Tryz.sizeOf338, v51:=Tryz.zeroValue338,
  t119:=Tryz.underlying339, a119:=Tryz.isAgg339, z119:=Tryz.sizeOf339, t141:=Tryz.underlying341,
  a141:=Tryz.isAgg341, z141:=Tryz.sizeOf341, v141:=Tryz.zeroValue341, t193:=Tryz.underlying370,
  a193:=Tryz.isAgg370, z193:=Tryz.sizeOf370, v193:=Tryz.zeroValue370, t194:=Tryz.underlying371,
  a194:=Tryz.isAgg371, z194:=Tryz.sizeOf371, v194:=Tryz.zeroValue371, t196:=Tryz.underlying373,
  a196:=Tryz.isAgg373, z196:=Tryz.sizeOf373, v196:=Tryz.zeroValue373, t198:=Tryz.underlying375,
  a198:=Tryz.isAgg375, z198:=Tryz.sizeOf375, v198:=Tryz.zeroValue375, t201:=Tryz.underlying378,
  a201:=Tryz.isAgg378, z201:=Tryz.sizeOf378, v201:=Tryz.zeroValue378, t226:=Tryz.underlying403,
  a226:=Tryz.isAgg403, z226:=Tryz.sizeOf403, v226:=Tryz.zeroValue403, t227:=Tryz.underlying404,
  a227:=Tryz.isAgg404, z227:=Tryz.sizeOf404, v227:=Tryz.zeroValue404,
  g7:=(by kernel_rfl), g8:=(by kernel_rfl)}
theorem Tryz.Rh:Lays.n198 Tryz.prog Tryz.CY:=
{mixed:=Eq.refl true, f198:=Eq.trans Tryz.func157 (congrArg some (Eq.refl (Body.n198 Tryz.CY))),
  f261:=Eq.trans Tryz.func213 (congrArg some (Eq.refl (Body.n261 Tryz.CY))),
  f311:=Eq.trans Tryz.func242 (congrArg some (Eq.refl (Body.n311 Tryz.CY))),
  f312:=Eq.trans Tryz.func243 (congrArg some (Eq.refl (Body.n312 Tryz.CY))), t0:=Tryz.underlying0,
  a0:=Tryz.isAgg0, z0:=Tryz.sizeOf0, v0:=Tryz.zeroValue0, t3:=Tryz.underlying3, a3:=Tryz.isAgg3,
  z3:=Tryz.sizeOf3, v3:=Tryz.zeroValue3, t4:=Tryz.underlying4, a4:=Tryz.isAgg4, z4:=Tryz.sizeOf4,
  v4:=Tryz.zeroValue4, t21:=Tryz.underlying21, a21:=Tryz.isAgg21, z21:=Tryz.sizeOf21, v21:=Tryz.zeroValue21,
  t46:=Tryz.underlying75, a46:=Tryz.isAgg75, z46:=Tryz.sizeOf75, v46:=Tryz.zeroValue75,
  t49:=Tryz.underlying47, a49:=Tryz.isAgg47, z49:=Tryz.sizeOf47, v49:=Tryz.zeroValue47,
  t51:=Tryz.underlying338, a51:=Tryz.isAgg338, z51:=Tryz.sizeOf338, v51:=Tryz.zeroValue338,
  t141:=Tryz.underlying341, a141:=Tryz.isAgg341, z141:=Tryz.sizeOf341, v141:=Tryz.zeroValue341,
  t193:=Tryz.underlying370, a193:=Tryz.isAgg370, z193:=Tryz.sizeOf370, v193:=Tryz.zeroValue370,
  t194:=Tryz.underlying371, a194:=Tryz.isAgg371, z194:=Tryz.sizeOf371, v194:=Tryz.zeroValue371,
  t196:=Tryz.underlying373, a196:=Tryz.isAgg373, z196:=Tryz.sizeOf373, v196:=Tryz.zeroValue373,
  t198:=Tryz.underlying375, a198:=Tryz.isAgg375, z198:=Tryz.sizeOf375, v198:=Tryz.zeroValue375,
  t201:=Tryz.underlying378, a201:=Tryz.isAgg378, z201:=Tryz.sizeOf378, v201:=Tryz.zeroValue378,
  t226:=Tryz.underlying403, a226:=Tryz.isAgg403, z226:=Tryz.sizeOf403, v226:=Tryz.zeroValue403,
  t227:=Tryz.underlying404, a227:=Tryz.isAgg404, z227:=Tryz.sizeOf404, v227:=Tryz.zeroValue404,
  g5:=(by kernel_rfl)}
theorem Tryz.ZN:Lays.n197 Tryz.prog Tryz.HX:=
{mixed:=Eq.refl true, f197:=Eq.trans Tryz.func222 (congrArg some (Eq.refl (Body.n197 Tryz.HX))),
  f260:=Eq.trans Tryz.func248 (congrArg some (Eq.refl (Body.n260 Tryz.HX))), t0:=Tryz.underlying0,
  a0:=Tryz.isAgg0, z0:=Tryz.sizeOf0, v0:=Tryz.zeroValue0, t3:=Tryz.underlying3, a3:=Tryz.isAgg3,
  z3:=Tryz.sizeOf3, v3:=Tryz.zeroValue3, t4:=Tryz.underlying4, a4:=Tryz.isAgg4, z4:=Tryz.sizeOf4,
  v4:=Tryz.zeroValue4, t5:=Tryz.underlying5, a5:=Tryz.isAgg5, z5:=Tryz.sizeOf5, v5:=Tryz.zeroValue5,
  t9:=Tryz.underlying9, a9:=Tryz.isAgg9, z9:=Tryz.sizeOf9, v9:=Tryz.zeroValue9, t21:=Tryz.underlying21,
  a21:=Tryz.isAgg21, z21:=Tryz.sizeOf21, v21:=Tryz.zeroValue21, t46:=Tryz.underlying75, a46:=Tryz.isAgg75,
  z46:=Tryz.sizeOf75, v46:=Tryz.zeroValue75, t105:=Tryz.underlying350, a105:=Tryz.isAgg350,
  z105:=Tryz.sizeOf350, v105:=Tryz.zeroValue350, t119:=Tryz.underlying339, a119:=Tryz.isAgg339,
  z119:=Tryz.sizeOf339, t138:=Tryz.underlying416, a138:=Tryz.isAgg416, z138:=Tryz.sizeOf416,
  v138:=Tryz.zeroValue416, t139:=Tryz.underlying417, a139:=Tryz.isAgg417, z139:=Tryz.sizeOf417,
  v139:=Tryz.zeroValue417, g3:=(by kernel_rfl),
  g4:=(by kernel_rfl)}
end Go.Proofs
set_option maxRecDepth 100000
namespace Go.Ab
open Go Go.Lib
variable {P:Program} {B:Nat} {σ:c8} {h:Nat->Option Obj} {H:au} {w W:World}
theorem zr (k:@hK (n9 W) P B σ h H w) {a:Addr} {v:Value} (aB:W.cell? a=some v):w.cell? a=some v:=by
  letI:=n9 W
  have dw:a.block<W.heap.size:=by
    grind[World.cell?]
  have e:w.heap[a.block]? = W.heap[a.block]? := k.base _ (Nat.lt_of_lt_of_le dw k.fm)
  simp_all[World.cell?]
theorem ZO (k:@hK (n9 W) P B σ h H w) {n:String} {v:Array Value} (aB:W.var? P n=some v):w.var? P n=some v:=by
  letI:=n9 W
  unfold World.var? at*
  cases hg:P.globalNamed n with
  | none=>simp_all
  | some g=>
    rw [hg]at aB
    have dw:g<W.heap.size:=by
      grind
    have e:w.heap[g]? = W.heap[g]? := k.base _ (Nat.lt_of_lt_of_le dw k.fm)
    simp_all
theorem apu (k:@hK (n9 W) P B σ h H w) {n:String} {jS:IntKind} {jV:List Int} (bk:TabIs P W n jS jV):TabIs P w n jS jV:=ZO k bk
theorem ZP (k:@hK (n9 W) P B σ h H w) {g:Nat} {T:RTab} (hV:RVar g T W):RVar g T w:=by
  obtain⟨Ri, Rj, h1, C1, Rk, Rl, Rm, LV, Rn, Ro, Rp, h2, h3, aG, a6, bq, bU, c2, fe⟩:=hV
  refine⟨Ri, Rj, zr k h1, C1, Rk, Rl, Rm, LV, Rn, Ro, Rp, zr k h2, zr k h3, zr k aG, a6, bq, fun i an=>?_, fun i an=>?_, fe⟩
  · obtain⟨x, y, z⟩:=bU i an
    grind[zr]
  · obtain⟨x, y, z⟩:=c2 i an
    grind[zr]
theorem HY {f:FuncId} {args:List Value} {v:Value} (bn:args.all AE=true) (hv:X6 v=true) (hf:∃fn c, P.funcs[f]? = some fn/\fn.body=some c)
    (aB:∀(B:Nat) (σ:c8) (h:Nat->Option Obj) (w:World), @hK (n9 W) P B σ h H w->Calls P f args.toArray w fun e aW=>e= .returned v/\RowKit.Below w.heap.size w aW):@wV (n9 W) P f args H v:=by
  intro B σ h w gp k Fv
  have e:gp=args.toArray:=Array.ext' (by rw [Fv.AE bn])
  subst e
  refine⟨hf, CallsIn.mono (callsIn_wide.2 (aB B σ h w k)) ?_⟩
  simp_all[amU]
end Go.Ab
namespace Seal
open Go Go.Ab Go.Lib Go.Proofs
variable {W:World}
theorem apv (bk:TabIs Tryz.prog W "unicode.properties" .u8 propertiesTab) (hV:RVar 1 letterT W) {r:Int} (h1:-2147483648<=r) (h2:r<=2147483647) (H:au):@wV (n9 W) Tryz.prog 156 [.int .i32 r] H (.bool (isLetterU r)):=
  HY rfl rfl ⟨_, _, Tryz.func156, rfl⟩ fun B σ h w k=>Any.unicode_IsLetter_all Tryz.Rf (by rfl) r w h1 h2 (apu k bk) (ZP k hV)
theorem apw (hV:RVar 2 digitT W) {r:Int} (h1:-2147483648<=r) (h2:r<=2147483647) (H:au):@wV (n9 W) Tryz.prog 157 [.int .i32 r] H (.bool (isDigitU r)):=
  HY rfl rfl ⟨_, _, Tryz.func157, rfl⟩ fun B σ h w k=>Any.unicode_IsDigit_all Tryz.Rh r w h1 h2 (ZP k hV)
end Seal
namespace Seal
open Go Go.Lib Go.Proofs Go.RowKit
set_option maxRecDepth 1000000 in
theorem apx (s:ByteArray) (a c:Int) (aB:c≠65533) (w:World):Calls Tryz.prog 177 #[.string s,.int .i64 a,.int .i32 c] w fun e aW=>e= .returned (.bool false)/\aW=w:=by
  have h:(c !=65533)=true:=by simp [aB]
  go_enter Tryz.func177, Tryz.ntmps177
  go_wp2
  go_ret
  simp_all
set_option maxRecDepth 1000000 in
theorem apy (s:ByteArray) (a:Nat) (bn:a<=s.size) (w:World) (bk:Utf8Tabs 4 5 w):Calls Tryz.prog 177 #[.string s,.int .i64 a,.int .i32 65533] w fun e aW=>e= .returned (.bool (decide ((decodeGo (s.extract a s.size)).2=1)))/\Below w.heap.size w aW:=by
  have Rq:Calls Tryz.prog 222 #[.string (s.extract a s.size)] w _:=Any.utf8_DecodeRuneInString Tryz.ZN (s.extract a s.size) w bk
  have h1:(0:Int)<=a:=by omega
  have h2:(a:Int)<=s.size:=by omega
  go_enter Tryz.func177, Tryz.ntmps177
  go_wp2_with fail
  refine Rq.mono fun e dT ⟨he, ak⟩=>?_
  subst he
  go_wp2_with fail
  go_ret
  refine⟨?_, ak⟩
  show Ending.returned (.bool (((decodeGo (s.extract a s.size)).2:Int)==1))=_
  have e:(((decodeGo (s.extract a s.size)).2:Int)==1)=decide ((decodeGo (s.extract a s.size)).2=1):=by
    grind
  rw [e]
set_option maxRecDepth 1000000 in
theorem ZQ (s:ByteArray) (a:Nat) (bn:a<=s.size) (c:Int) (w:World) (bk:Utf8Tabs 4 5 w):Calls Tryz.prog 177 #[.string s,.int .i64 a,.int .i32 c] w fun e aW=>e= .returned (.bool (decide (c=65533/\(decodeGo (s.extract a s.size)).2=1)))/\Below w.heap.size w aW:=by
  by_cases aB:c=65533
  · subst aB
    refine(apy s a bn w bk).mono fun e aW ⟨he, ak⟩=>⟨?_, ak⟩
    grind
  · refine(apx s a c aB w).mono fun e aW ⟨he, aM⟩=>⟨?_, aM▸Below.refl _ _⟩
    simp_all
def yh (c:Int) (first:Bool):Bool:=isLetterU c||!first&&(isDigitU c||c==45||c==95||c==46)
set_option maxRecDepth 1000000 in
theorem apz (c:Int) (first:Bool) (h1:-2147483648<=c) (h2:c<=2147483647) (w:World) (bk:TabIs Tryz.prog w "unicode.properties" .u8 propertiesTab) (hL:RVar 1 letterT w) (lF:∀aW, Below w.heap.size w aW->RVar 2 digitT aW):
    Calls Tryz.prog 181 #[.int .i32 c,.bool first] w fun e aW=>e= .returned (.bool (yh c first))/\Below w.heap.size w aW:=by
  have LW:Calls Tryz.prog 156 #[.int .i32 c] w _:=Any.unicode_IsLetter_all Tryz.Rf (by rfl) c w h1 h2 bk hL
  go_enter Tryz.func181, Tryz.ntmps181
  go_wp2_with fail
  refine LW.mono fun e dT ⟨he, ak⟩=>?_
  subst he
  have Rq:Calls Tryz.prog 157 #[.int .i32 c] dT _:=Any.unicode_IsDigit_all Tryz.Rh c dT h1 h2 (lF dT ak)
  cases aD:isLetterU c with
  | true=>
    go_wp2_with fail
    go_ret
    simp_all[yh]
  | false=>
    cases first with
    | true=>
      go_wp2_with fail
      go_ret
      simp_all[yh]
    | false=>
      go_wp2_with fail
      refine Rq.mono fun e fb ⟨he, mb⟩=>?_
      subst he
      have nO:Below w.heap.size w fb:=ak.trans (mb.mono ak.size)
      cases aO:isDigitU c with
      | true=>
        go_wp2_with fail
        go_ret
        simp_all[yh]
      | false=>
        by_cases a7:c=45
        · subst a7
          go_wp2_with fail
          go_ret
          simp_all[yh]
        by_cases bt:c=95
        · subst bt
          go_wp2_with fail
          go_ret
          simp_all[yh]
        have b1:(c==45)=false:=by simp_all
        have b2:(c==95)=false:=by simp_all
        go_wp2_with fail
        go_ret
        simp_all[yh]
end Seal
namespace Seal
open Go Go.Lib Go.Proofs Go.RowKit
structure uA (w:World):Prop where
  u:Utf8Tabs 4 5 w
  p:TabIs Tryz.prog w "unicode.properties" .u8 propertiesTab
  l:RVar 1 letterT w
  d:RVar 2 digitT w
theorem uA.lE {w aW:World} (h:uA w) (aB:∀a v, w.cell? a=some v->aW.cell? a=some v) (hv:∀n v, w.var? Tryz.prog n=some v->aW.var? Tryz.prog n=some v):uA aW:=by
  have gk:∀ {g:Nat} {T:RTab}, RVar g T w->RVar g T aW:=by
    rintro g T ⟨Ri, Rj, h1, C1, Rk, Rl, Rm, LV, Rn, Ro, Rp, h2, h3, aG, a6, bq, bU, c2, fe⟩
    refine⟨Ri, Rj, aB _ _ h1, C1, Rk, Rl, Rm, LV, Rn, Ro, Rp, aB _ _ h2, aB _ _ h3, aB _ _ aG, a6, bq, fun i an=>?_, fun i an=>?_, fe⟩
    · obtain⟨x, y, z⟩:=bU i an
      simp_all
    · obtain⟨x, y, z⟩:=c2 i an
      simp_all
  exact⟨⟨fun c h1=>aB _ _ (h.u.1 c h1), fun i an=>⟨aB _ _ (h.u.2 i an).1, aB _ _ (h.u.2 i an).2⟩⟩, hv _ _ h.p, gk h.l, gk h.d⟩
theorem uA.below {w aW:World} (h:uA w) (ak:Below w.heap.size w aW):uA aW:=by
  refine h.lE (fun a v bn=>?_) (fun n v aU=>?_)
  · have dw:a.block<w.heap.size:=by
      grind[World.cell?]
    rw [ak.cell dw];exact bn
  · unfold World.var? at*
    cases hg:Tryz.prog.globalNamed n with
    | none=>simp_all
    | some g=>
      rw [hg]at aU
      have dw:g<w.heap.size:=by
        grind
      show(match aW.heap[g]? with|some (.cells aq _ _)=>some aq|_=>none)=some v
      rw [ak.block g dw];exact aU
def AZ (n:Int):Int:=if n<1\/n>24 then 41 else 0
def A0 (s:ByteArray) (bc:Nat) (c:Int):Bool:=decide (c=65533/\(decodeGo (s.extract bc s.size)).2=1)
def FE (s:ByteArray) (bc:Nat) (n:Int):Bool:=A0 s bc (Utf8.decode s bc).1||!yh (Utf8.decode s bc).1 (n==0)
def pT (s:ByteArray):Nat->Nat->Int->Int
  | 0, bc, n=>AZ n
  | b+1, bc, n=>if bc<s.size then(if FE s bc n then 41 else pT s b (bc+(Utf8.decode s bc).2) (n+1))else AZ n
theorem apA (s:ByteArray) (b bc:Nat) (n:Int) (h:¬bc<s.size):pT s b bc n=AZ n:=by
  cases b with
  | zero=>rfl
  | succ b=>simp [pT, h]
theorem ZR (s:ByteArray) (bc:Nat) (h:bc<s.size):1<=(Utf8.decode s bc).2:=by
  by_cases bn:(s[bc]'h).toNat<128
  · simp_all[decode_ascii]
  simp_all[decode_high]
theorem apB {w wr:World} {s:ByteArray} {p:Nat} (h:Below w.heap.size w wr):Below w.heap.size w (wr.iterAt w.heap.size s p):=by
  refine h.trans ⟨rfl, rfl, rfl, ?_, fun k ah=>?_⟩
  · simp [World.iterAt]
  grind[World.iterAt]
theorem apC {k:Nat} {wr:World} {s:ByteArray} {p q:Nat} (h:wr.heap[k]? = some (.stringIter s q)):(wr.iterAt k s p).heap[k]? = some (.stringIter s p):=by
  grind[World.iterAt]
set_option maxRecDepth 1000000 in
theorem apD (s:ByteArray) (al:s.size<4611686018427387904) (w:World) (bk:uA w):Calls Tryz.prog 123 #[.string s] w fun e aW=>e= .returned (.int .i64 (pT s s.size 0 0))/\Below w.heap.size w aW:=by
  go_enter Tryz.func123, Tryz.ntmps123
  go_wp2_with fail
  go_loopw [3] (fun n aW=>∃(bc b:Nat) (k:Int), aW.heap[w.heap.size]? = some (.stringIter s bc)/\Below w.heap.size w aW/\n= .int .i64 k/\pT s b bc k=pT s s.size 0 0/\s.size<=bc+b/\0<=k/\k<=bc) (fun _ aW=>s.size-aW.iterPos w.heap.size)
  case atStart=>exact⟨0, s.size, 0, World.iter_heap w s 0, Below.alloc (Below.refl _ _) (Nat.le_refl _) _, rfl, rfl, by omega, by omega, by omega⟩
  case round=>
    obtain⟨bc, b, k, oM, ph, rfl, aB, ak, hU, tu⟩:=hrel
    by_cases bJ:bc<s.size
    · have xN:∀de,(Instr.next (.pointer (some ⟨w.heap.size, 0, none⟩)) true de).run Tryz.prog wr=_:=fun de=>run_next_any_at wr w.heap.size s bc de oM bJ
      have apE:=ZR s bc bJ
      have LY:Below w.heap.size w (wr.iterAt w.heap.size s (bc+(Utf8.decode s bc).2)):=apB ph
      have Rr:(wr.iterAt w.heap.size s (bc+(Utf8.decode s bc).2)).heap[w.heap.size]? = some (.stringIter s (bc+(Utf8.decode s bc).2)):=apC oM
      have j7:=decode_le s bc
      generalize wr.iterAt w.heap.size s (bc+(Utf8.decode s bc).2)=dT at*
      have FF:Calls Tryz.prog 177 #[.string s,.int .i64 bc,.int .i32 (Utf8.decode s bc).1] dT fun e aW=>e= .returned (.bool (A0 s bc (Utf8.decode s bc).1))/\Below dT.heap.size dT aW:=ZQ s bc (Nat.le_of_lt bJ) (Utf8.decode s bc).1 dT (bk.below LY).u
      have dw:w.heap.size<dT.heap.size:=(Array.getElem?_eq_some_iff.1 Rr).1
      obtain⟨fB, HZ⟩:∃fB, A0 s bc (Utf8.decode s bc).1=fB:=⟨_, rfl⟩
      rw [HZ]at FF
      go_wp2_with fail
      refine FF.mono fun e fb ⟨he, mb⟩=>?_
      subst he
      have H0:Below w.heap.size w fb:=LY.trans (mb.mono LY.size)
      have Rs:fb.heap[w.heap.size]? = some (.stringIter s (bc+(Utf8.decode s bc).2)):=by rw [mb.block _ dw];exact Rr
      clear Rr LY mb ph
      cases fB with
      | true=>
        go_wp2_with fail
        go_ret
        refine⟨?_, H0⟩
        rw [<- aB]
        cases b with
        | zero=>omega
        | succ b=>simp_all[pT,FE]
      | false=>
        have HR:=bk.below H0
        have ZS:=apz (Utf8.decode s bc).1 (k==0) (by omega) (by omega) fb HR.p HR.l (fun aW aT=>(HR.below aT).d)
        obtain⟨cF, apF⟩:∃cF, yh (Utf8.decode s bc).1 (k==0)=cF:=⟨_, rfl⟩
        rw [apF]at ZS
        go_wp2_with fail
        refine ZS.mono fun e kz ⟨he, nO⟩=>?_
        subst he
        have ZT:w.heap.size<fb.heap.size:=(Array.getElem?_eq_some_iff.1 Rs).1
        have ZU:Below w.heap.size w kz:=H0.trans (nO.mono H0.size)
        have apG:kz.heap[w.heap.size]? = some (.stringIter s (bc+(Utf8.decode s bc).2)):=by rw [nO.block _ ZT];exact Rs
        clear Rs H0 nO
        cases cF with
        | false=>
          go_wp2_with fail
          go_ret
          refine⟨?_, ZU⟩
          rw [<- aB]
          cases b with
          | zero=>omega
          | succ b=>simp_all[pT,FE]
        | true=>
          have lp:k+1<9223372036854775808:=by omega
          go_wp2_with fail
          go_roundw
          case rel=>
            cases b with
            | zero=>omega
            | succ b=>
              refine⟨bc+(Utf8.decode s bc).2, b, k+1, apG, ZU, ?_, ?_, by omega, by omega, by omega⟩
              · rfl
              simp_all[pT,FE]
          case measure=>
            grind[World.iterPos]
    · have xN:∀de,(Instr.next (.pointer (some ⟨w.heap.size, 0, none⟩)) true de).run Tryz.prog wr=_:=fun de=>run_next_end_at wr w.heap.size s bc de oM bJ
      rw [apA s b bc k bJ]at aB
      by_cases h1:k<1
      · go_wp2_with fail
        go_ret
        simp_all[AZ]
      by_cases h2:k>24
      · go_wp2_with fail
        go_ret
        simp_all[AZ]
      go_wp2_with fail
      go_ret
      exact⟨by rw [<- aB];simp [AZ, h1, h2], ph⟩
end Seal
namespace Seal
open Go Go.Ab Go.Lib Go.Proofs
variable {W:World}
theorem ZV {B:Nat} {σ:Ab.c8} {h:Nat->Option Ab.Obj} {H:Ab.au} {w:World} (k:@hK (n9 W) Tryz.prog B σ h H w) (bk:uA W):uA w:=bk.lE (fun a v bn=>zr k bn) (fun n v aU=>ZO k aU)
theorem apH (bk:uA W) {s:ByteArray} (al:s.size<4611686018427387904) (H:Ab.au):@wV (n9 W) Tryz.prog 123 [.string s] H (.int .i64 (pT s s.size 0 0)):=
  HY rfl rfl ⟨_, _, Tryz.func123, rfl⟩ fun B σ h w k=>apD s al w (ZV k bk)
end Seal
namespace Seal
open Go Go.Lib Go.Shelf Go.Proofs Go.Proofs.YtifflnhooaophaaGreatDoor
variable {W:World}
theorem apI:RExtra Tryz.prog Tryz.CZ:=⟨by rfl, by rfl, by rfl, by rfl, by rfl, by rfl, by rfl, by rfl⟩
theorem apJ:RExtra Tryz.prog Tryz.CY:=⟨by rfl, by rfl, by rfl, by rfl, by rfl, by rfl, by rfl, by rfl⟩
theorem apK:U8Extra Tryz.prog Tryz.HX:=by constructor<;>kernel_rfl
theorem apL:(Rows.laid_unicode_utf8_acceptRanges:DataW Unit)=acceptData:=by rfl
theorem apM:(Rows.laid_unicode_properties:DataW Unit)=tabData .u8 propertiesTab:=by rfl
theorem apN {P:Program} {name:String} {k:IntKind} {jV:List Int} {g:Nat} {t e:TypeId} {n:Nat}
    (hg:P.globalNamed name=some g) (apO:(P.globals[g]?).map (·.type)=some t) (ht:P.underlying t=some (.array n e)) (he:P.underlying e=some (.int k)) (apP:P.cellsOf e=1) (LZ:P.cellsOf t=n)
    (h:VarReads P W name (tabData k jV)):TabIs P W name k jV:=by
  obtain⟨CE, nh, aq, mM, p, yc, QX, apQ, aO⟩:=h
  obtain rfl:=Option.some.inj (hg.symm.trans yc)
  obtain rfl:=Option.some.inj (apO.symm.trans QX)
  unfold TabIs
  rw [apQ, <- cells_of_tab ht he apP LZ aO]
theorem apR (h1:VarReads Tryz.prog W "unicode/utf8.acceptRanges" Rows.laid_unicode_utf8_acceptRanges) (h2:VarReads Tryz.prog W "unicode.properties" Rows.laid_unicode_properties)
    (h3:VarReads Tryz.prog W "unicode.Digit" Rows.laid_unicode_Digit) (aG:VarReads Tryz.prog W "unicode.Letter" Rows.laid_unicode_Letter) (a6:VarReads Tryz.prog W "unicode/utf8.first" Rows.laid_unicode_utf8_first):uA W:=by
  refine⟨?_, ?_, ?_, ?_⟩
  · rw [apL]at h1
    have a6:VarReads Tryz.prog W "unicode/utf8.first" Pinned.utf8First:=a6
    rw [Pinned.utf8First_eq]at a6
    exact utf8Tabs_of_readsT (ρ:=Tryz.HX) {Tryz.ZN with} apK a6 h1
  · rw [apM]at h2
    exact apN (g:=0) (t:=339) (e:=5) (n:=256) (by rfl) (by rfl) (by rfl) (by rfl) (by rfl) (by rfl) h2
  · have aG:VarReads Tryz.prog W "unicode.Letter" Pinned.letter:=aG
    rw [Pinned.letter_eq]at aG
    exact rvar_of_reads (ρ:=Tryz.CZ) {Tryz.Rf with} apI (by rfl) (by rfl) aG
  · have h3:VarReads Tryz.prog W "unicode.Digit" Pinned.digit:=h3
    rw [Pinned.digit_eq]at h3
    exact rvar_of_reads (ρ:=Tryz.CY) {Tryz.Rh with} apJ (by rfl) (by rfl) h3
end Seal
namespace Seal
open Go Go.Lib Go.Shelf Go.Proofs
variable {W:World}
def L0 (args:List Value):Option Value:=match args with
  | [.string s]=>cond (Nat.blt s.size 4611686018427387904) (some (.int .i64 (pT s s.size 0 0))) none
  | _=>none
def FG (F:Int->Bool) (args:List Value):Option Value:=match args with
  | [.int .i32 r]=>cond (decide (-2147483648<=r)&&decide (r<=2147483647)) (some (.bool (F r))) none
  | _=>none
@[reducible] def Rt:Ab.eA:=⟨fun f args _=>cond (Nat.beq f 123) (L0 args) (cond (Nat.beq f 156) (FG isLetterU args) (cond (Nat.beq f 157) (FG isDigitU args) none)), fun _=>none⟩
theorem apS {args:List Value} {v:Value} (h:L0 args=some v):∃s, args= [.string s]/\s.size<4611686018427387904/\v= .int .i64 (pT s s.size 0 0):=by
  unfold L0 at h
  split at h
  · rename_i s
    cases ak:Nat.blt s.size 4611686018427387904 with
    | false=>simp_all
    | true=>
      simp_all
  · cases h
theorem ZW {F:Int->Bool} {args:List Value} {v:Value} (h:FG F args=some v):∃r, args= [.int .i32 r]/\-2147483648<=r/\r<=2147483647/\v= .bool (F r):=by
  unfold FG at h
  grind
theorem apT (bk:uA W) (f:FuncId) (args:List Value) (H:Ab.au) (v:Value) (h:Rt.lG f args H=some v):@Ab.wV (Ab.n9 W) Tryz.prog f args H v:=by
  have h:cond (Nat.beq f 123) (L0 args) (cond (Nat.beq f 156) (FG isLetterU args) (cond (Nat.beq f 157) (FG isDigitU args) none))=some v:=h
  cases h1:Nat.beq f 123 with
  | true=>
    rw [h1]at h
    obtain rfl:=eq_of_beq_eq_true h1
    obtain⟨s, rfl, al, rfl⟩:=apS h
    exact apH bk al H
  | false=>
  rw [h1]at h
  cases h2:Nat.beq f 156 with
  | true=>
    rw [h2]at h
    obtain rfl:=eq_of_beq_eq_true h2
    obtain⟨r, rfl, a, b, rfl⟩:=ZW h
    exact apv bk.p bk.l a b H
  | false=>
  rw [h2]at h
  cases h3:Nat.beq f 157 with
  | true=>
    rw [h3]at h
    obtain rfl:=eq_of_beq_eq_true h3
    obtain⟨r, rfl, a, b, rfl⟩:=ZW h
    exact apw bk.d a b H
  | false=>rw [h3]at h;cases h
theorem good:Ab.KQ Tryz.prog=true:=by kernel_rfl
end Seal
namespace Go.Proofs
open Go.RowKit Go.Shelf Go.Lib
set_option maxRecDepth 100000
def Tryz.C2:Ren:=
{f:=fun x=>
    match x with
    | 204=>160
    | 262=>214
    | 274=>264
    | 275=>265
    | 313=>244
    | n=>n,
  t:=fun x=>
    match x with
    | 46=>75
    | 51=>338
    | 160=>405
    | 162=>382
    | 203=>380
    | 206=>432
    | 208=>434
    | n=>n,
  g:=fun x=>
    match x with
    | 13=>3
    | n=>n}
theorem Tryz.ZX:Lays.n204 Tryz.prog Tryz.C2:=
{mixed:=Eq.refl true,
  f204:=Eq.trans Tryz.func160 (congrArg some (Eq.refl (Body.n204 Tryz.C2))),
  f262:=Eq.trans Tryz.func214 (congrArg some (Eq.refl (Body.n262 Tryz.C2))),
  f274:=Eq.trans Tryz.func264 (congrArg some (Eq.refl (Body.n274 Tryz.C2))),
  f275:=Eq.trans Tryz.func265 (congrArg some (Eq.refl (Body.n275 Tryz.C2))),
  f313:=Eq.trans Tryz.func244 (congrArg some (Eq.refl (Body.n313 Tryz.C2))),
  t0:=Tryz.underlying0,
  a0:=Tryz.isAgg0,
  z0:=Tryz.sizeOf0,
  v0:=Tryz.zeroValue0,
  t3:=Tryz.underlying3,
  a3:=Tryz.isAgg3,
  z3:=Tryz.sizeOf3,
  v3:=Tryz.zeroValue3,
  t4:=Tryz.underlying4,
  a4:=Tryz.isAgg4,
  z4:=Tryz.sizeOf4,
  v4:=Tryz.zeroValue4,
  t21:=Tryz.underlying21,
  a21:=Tryz.isAgg21,
  z21:=Tryz.sizeOf21,
  v21:=Tryz.zeroValue21,
  t46:=Tryz.underlying75,
  a46:=Tryz.isAgg75,
  z46:=Tryz.sizeOf75,
  v46:=Tryz.zeroValue75,
  t51:=Tryz.underlying338,
  a51:=Tryz.isAgg338,
  z51:=Tryz.sizeOf338,
  v51:=Tryz.zeroValue338,
  t160:=Tryz.underlying405,
  a160:=Tryz.isAgg405,
  z160:=Tryz.sizeOf405,
  v160:=Tryz.zeroValue405,
  t162:=Tryz.underlying382,
  a162:=Tryz.isAgg382,
  z162:=Tryz.sizeOf382,
  v162:=Tryz.zeroValue382,
  t203:=Tryz.underlying380,
  a203:=Tryz.isAgg380,
  z203:=Tryz.sizeOf380,
  v203:=Tryz.zeroValue380,
  t206:=Tryz.underlying432,
  a206:=Tryz.isAgg432,
  z206:=Tryz.sizeOf432,
  v206:=Tryz.zeroValue432,
  t208:=Tryz.underlying434,
  a208:=Tryz.isAgg434,
  z208:=Tryz.sizeOf434,
  v208:=Tryz.zeroValue434,
  g13:=by kernel_rfl}
def Tryz.H2:Ren:=
{f:=fun x=>
    match x with
    | 167=>178
    | 168=>179
    | 240=>223
    | 242=>224
    | 276=>249
    | 278=>250
    | n=>n,
  t:=fun x=>
    match x with
    | 37=>22
    | 46=>75
    | 51=>338
    | 70=>301
    | 72=>303
    | 75=>306
    | 80=>310
    | 164=>386
    | n=>n,
  g:=fun x=>
    match x with
    | n=>n}
theorem Tryz.apU:Lays.n167 Tryz.prog Tryz.H2:=
{mixed:=Eq.refl true,
  f167:=Eq.trans Tryz.func178 (congrArg some (Eq.refl (Body.n167 Tryz.H2))),
  f240:=Eq.trans Tryz.func223 (congrArg some (Eq.refl (Body.n240 Tryz.H2))),
  f276:=Eq.trans Tryz.func249 (congrArg some (Eq.refl (Body.n276 Tryz.H2))),
  t0:=Tryz.underlying0,
  a0:=Tryz.isAgg0,
  z0:=Tryz.sizeOf0,
  v0:=Tryz.zeroValue0,
  t4:=Tryz.underlying4,
  a4:=Tryz.isAgg4,
  z4:=Tryz.sizeOf4,
  v4:=Tryz.zeroValue4,
  t5:=Tryz.underlying5,
  a5:=Tryz.isAgg5,
  z5:=Tryz.sizeOf5,
  v5:=Tryz.zeroValue5,
  t9:=Tryz.underlying9,
  a9:=Tryz.isAgg9,
  z9:=Tryz.sizeOf9,
  v9:=Tryz.zeroValue9,
  t20:=Tryz.underlying20,
  a20:=Tryz.isAgg20,
  z20:=Tryz.sizeOf20,
  v20:=Tryz.zeroValue20,
  t37:=Tryz.underlying22,
  a37:=Tryz.isAgg22,
  z37:=Tryz.sizeOf22,
  v37:=Tryz.zeroValue22,
  t70:=Tryz.underlying301,
  a70:=Tryz.isAgg301,
  z70:=Tryz.sizeOf301,
  v70:=Tryz.zeroValue301,
  t72:=Tryz.underlying303,
  a72:=Tryz.isAgg303,
  z72:=Tryz.sizeOf303,
  v72:=Tryz.zeroValue303,
  t75:=Tryz.underlying306,
  a75:=Tryz.isAgg306,
  z75:=Tryz.sizeOf306,
  v75:=Tryz.zeroValue306,
  t164:=Tryz.underlying386,
  a164:=Tryz.isAgg386,
  z164:=Tryz.sizeOf386,
  v164:=Tryz.zeroValue386}
def Tryz.C3:Ren:=
{f:=fun x=>
    match x with
    | 167=>178
    | 168=>179
    | 240=>223
    | 242=>224
    | 276=>249
    | 278=>250
    | n=>n,
  t:=fun x=>
    match x with
    | 37=>22
    | 46=>75
    | 51=>338
    | 70=>301
    | 72=>303
    | 75=>306
    | 80=>310
    | 164=>386
    | n=>n,
  g:=fun x=>
    match x with
    | n=>n}
theorem Tryz.apV:Lays.n168 Tryz.prog Tryz.C3:=
{mixed:=Eq.refl true,
  f168:=Eq.trans Tryz.func179 (congrArg some (Eq.refl (Body.n168 Tryz.C3))),
  f240:=Eq.trans Tryz.func223 (congrArg some (Eq.refl (Body.n240 Tryz.C3))),
  f242:=Eq.trans Tryz.func224 (congrArg some (Eq.refl (Body.n242 Tryz.C3))),
  f276:=Eq.trans Tryz.func249 (congrArg some (Eq.refl (Body.n276 Tryz.C3))),
  f278:=Eq.trans Tryz.func250 (congrArg some (Eq.refl (Body.n278 Tryz.C3))),
  t0:=Tryz.underlying0,
  a0:=Tryz.isAgg0,
  z0:=Tryz.sizeOf0,
  v0:=Tryz.zeroValue0,
  t3:=Tryz.underlying3,
  a3:=Tryz.isAgg3,
  z3:=Tryz.sizeOf3,
  v3:=Tryz.zeroValue3,
  t4:=Tryz.underlying4,
  a4:=Tryz.isAgg4,
  z4:=Tryz.sizeOf4,
  v4:=Tryz.zeroValue4,
  t5:=Tryz.underlying5,
  a5:=Tryz.isAgg5,
  z5:=Tryz.sizeOf5,
  v5:=Tryz.zeroValue5,
  t9:=Tryz.underlying9,
  a9:=Tryz.isAgg9,
  z9:=Tryz.sizeOf9,
  v9:=Tryz.zeroValue9,
  t20:=Tryz.underlying20,
  a20:=Tryz.isAgg20,
  z20:=Tryz.sizeOf20,
  v20:=Tryz.zeroValue20,
  t21:=Tryz.underlying21,
  a21:=Tryz.isAgg21,
  z21:=Tryz.sizeOf21,
  v21:=Tryz.zeroValue21,
  t37:=Tryz.underlying22,
  a37:=Tryz.isAgg22,
  z37:=Tryz.sizeOf22,
  v37:=Tryz.zeroValue22,
  t46:=Tryz.underlying75,
  a46:=Tryz.isAgg75,
  z46:=Tryz.sizeOf75,
  v46:=Tryz.zeroValue75,
  t51:=Tryz.underlying338,
  a51:=Tryz.isAgg338,
  z51:=Tryz.sizeOf338,
  v51:=Tryz.zeroValue338,
  t70:=Tryz.underlying301,
  a70:=Tryz.isAgg301,
  z70:=Tryz.sizeOf301,
  v70:=Tryz.zeroValue301,
  t72:=Tryz.underlying303,
  a72:=Tryz.isAgg303,
  z72:=Tryz.sizeOf303,
  v72:=Tryz.zeroValue303,
  t75:=Tryz.underlying306,
  a75:=Tryz.isAgg306,
  z75:=Tryz.sizeOf306,
  v75:=Tryz.zeroValue306,
  t164:=Tryz.underlying386,
  a164:=Tryz.isAgg386,
  z164:=Tryz.sizeOf386,
  v164:=Tryz.zeroValue386}
def Tryz.Ru:Ren:=
{f:=fun x=>
    match x with
    | 169=>180
    | n=>n,
  t:=fun x=>
    match x with
    | 37=>22
    | 70=>301
    | 72=>303
    | 127=>353
    | n=>n,
  g:=fun x=>
    match x with
    | n=>n}
theorem Tryz.apW:Lays.n169 Tryz.prog Tryz.Ru:=
{mixed:=Eq.refl true,
  f169:=Eq.trans Tryz.func180 (congrArg some (Eq.refl (Body.n169 Tryz.Ru))),
  t0:=Tryz.underlying0,
  a0:=Tryz.isAgg0,
  z0:=Tryz.sizeOf0,
  v0:=Tryz.zeroValue0,
  t3:=Tryz.underlying3,
  a3:=Tryz.isAgg3,
  z3:=Tryz.sizeOf3,
  v3:=Tryz.zeroValue3,
  t9:=Tryz.underlying9,
  a9:=Tryz.isAgg9,
  z9:=Tryz.sizeOf9,
  v9:=Tryz.zeroValue9,
  t37:=Tryz.underlying22,
  a37:=Tryz.isAgg22,
  z37:=Tryz.sizeOf22,
  v37:=Tryz.zeroValue22,
  t70:=Tryz.underlying301,
  a70:=Tryz.isAgg301,
  z70:=Tryz.sizeOf301,
  v70:=Tryz.zeroValue301,
  t72:=Tryz.underlying303,
  a72:=Tryz.isAgg303,
  z72:=Tryz.sizeOf303,
  v72:=Tryz.zeroValue303,
  t127:=Tryz.underlying353,
  a127:=Tryz.isAgg353,
  z127:=Tryz.sizeOf353,
  v127:=Tryz.zeroValue353}
theorem Tryz.apX:Builder.Extra Tryz.prog Tryz.H2 where
  sizeBuilder:=by rfl
  liesBuilder:=by rfl
  t5:=Tryz.underlying5
  a5:=Tryz.isAgg5
  z5:=Tryz.sizeOf5
  v5:=Tryz.zeroValue5
  infoByte:=by rfl
  cellsByte:=by rfl
  sizeByte:=by rfl
  neB5:=by decide
theorem Tryz.apY:Builder.Extra Tryz.prog Tryz.C3 where
  sizeBuilder:=by rfl
  liesBuilder:=by rfl
  t5:=Tryz.underlying5
  a5:=Tryz.isAgg5
  z5:=Tryz.sizeOf5
  v5:=Tryz.zeroValue5
  infoByte:=by rfl
  cellsByte:=by rfl
  sizeByte:=by rfl
  neB5:=by decide
theorem Tryz.apZ:Builder.Extra Tryz.prog Tryz.Ru where
  sizeBuilder:=by rfl
  liesBuilder:=by rfl
  t5:=Tryz.underlying5
  a5:=Tryz.isAgg5
  z5:=Tryz.sizeOf5
  v5:=Tryz.zeroValue5
  infoByte:=by rfl
  cellsByte:=by rfl
  sizeByte:=by rfl
  neB5:=by decide
theorem Tryz.ap0 (B b:Nat) (bs:List Value) (c:Int) (w:World) (h:Lib.IsBuilderF 303 5 B b bs w) (hlen:bs.length+1<=140737488355328) (H3:B<=w.heap.size):
    Calls Tryz.prog 178 #[.pointer (some ⟨b, 0, none⟩),.int .u8 c] w fun e aW=>e= .returned .nilIface/\(Lib.BuilderAtF 303 5 B b (.pointer (some ⟨b, 0, none⟩)) (bs++ [.int .u8 c]) aW/\Below B w aW/\Lib.OthersKept 5 (some b) w aW):=Any.Builder_WriteByte_k Tryz.apU Tryz.apX B b bs c w h hlen H3
theorem Tryz.ap1 (B b:Nat) (bs:List Value) (r:Int) (P0:-2147483648<=r) (nL:r<=2147483647) (w:World) (h:Lib.IsBuilderF 303 5 B b bs w) (hlen:bs.length+4<=140737488355328) (H3:B<=w.heap.size):
    Calls Tryz.prog 179 #[.pointer (some ⟨b, 0, none⟩),.int .i32 r] w fun e aW=>e= .returned (.tuple #[.int .i64 (Lib.runeCells r).length,.nilIface])/\(Lib.BuilderAtF 303 5 B b (.pointer (some ⟨b, 0, none⟩)) (bs++Lib.runeCells r) aW/\Below B w aW/\Lib.OthersKept 5 (some b) w aW):=Any.Builder_WriteRune_k Tryz.apV Tryz.apY B b bs r P0 nL w h hlen H3
theorem Tryz.ap2 (B b:Nat) (l:List UInt8) (w:World) (h:Lib.IsBuilderF 303 5 B b (Lib.byteCells l) w) (H3:B<=w.heap.size):
    Calls Tryz.prog 180 #[.pointer (some ⟨b, 0, none⟩)] w fun e aW=>e= .returned (.string ⟨l.toArray⟩)/\(Lib.IsBuilderF 303 5 B b (Lib.byteCells l) aW/\Below B w aW/\Lib.OthersKept 5 (some b) w aW):=Any.Builder_String_any_k Tryz.apW Tryz.apZ B b l w h H3
theorem Tryz.ap3 (r:Int) (w:World) (hV:CaseVar 3 caseA w):
    Calls Tryz.prog 160 #[.int .i32 r] w fun e aW=>e= .returned (.int .i32 (toLowerU r))/\∃q, aW=w.drewN q:=Any.unicode_ToLower_laid Tryz.ZX r w hV
end Go.Proofs
namespace Seal
open Go Go.Lib Go.Proofs Go.RowKit
structure uB (w:World):Prop where
  t:uA w
  c:CaseVar 3 caseA w
theorem uB.below {w aW:World} (h:uB w) (ak:Below w.heap.size w aW):uB aW:=by
  refine⟨h.t.below ak, ?_⟩
  have nP:∀a v, w.cell? a=some v->aW.cell? a=some v:=fun a v bn=>by
    have dw:a.block<w.heap.size:=by
      grind[World.cell?]
    rw [ak.cell dw];exact bn
  obtain⟨R, Rv, cap, h1, h2⟩:=h.c
  refine⟨R, Rv, cap, nP _ _ h1, fun i an=>?_⟩
  obtain⟨cU, cR, a3, a4, a5⟩:=h2 i an
  simp_all
theorem ap4 (r:Int) (aJ:0<=r) (h1:r<=2147483647):-2147483648<=toLowerU r/\toLowerU r<=2147483647:=by
  rw [<- toLowerW_caseA]
  grind[Go.Proofs.Lib.toLowerW,toW,wrap32]
def H4 (s:ByteArray) (bc:Nat):List UInt8:=if A0 s bc (Utf8.decode s bc).1 then [s.get! bc]else encodeRune (toLowerU (Utf8.decode s bc).1)
def w6 (s:ByteArray):Nat->Nat->List UInt8
  | 0, _=>[]
  | f+1, bc=>if bc<s.size then H4 s bc++w6 s f (bc+(Utf8.decode s bc).2)else []
theorem ap5 (s:ByteArray) (f bc:Nat) (h:¬bc<s.size):w6 s f bc= []:=by
  cases f with
  | zero=>rfl
  | succ f=>simp [w6, h]
def A1 (s:ByteArray):ByteArray:=⟨(w6 s s.size 0).toArray⟩
theorem ap6 (w:World) (q:Nat):Below w.heap.size w (w.drewN q):=⟨rfl, rfl, rfl, Nat.le_refl _, fun _ _=>rfl⟩
theorem ZY (r:Int) (w:World) (hV:CaseVar 3 caseA w):Calls Tryz.prog 160 #[.int .i32 r] w fun e aW=>e= .returned (.int .i32 (toLowerU r))/\Below w.heap.size w aW:=
  (Tryz.ap3 r w hV).mono fun e aW ⟨he, q, aM⟩=>⟨he, aM▸ap6 w q⟩
set_option maxRecDepth 1000000 in
theorem ap7 (s:ByteArray) (w:World) (bk:uB w) (al:s.size<=35184372088832):
    Calls Tryz.prog 122 #[.string s] w fun e aW=>e= .returned (.string (A1 s))/\Below w.heap.size w aW:=by
  go_enter Tryz.func122, Tryz.ntmps122
  go_wp2
  go_loopw [] (fun wr=>∃(bc mM:Nat) (jR:List UInt8), Lib.IsBuilderF 303 5 w.heap.size w.heap.size (Lib.byteCells jR) wr/\wr.heap[w.heap.size+1]? = some (.stringIter s bc)/\Below w.heap.size w wr/\jR++w6 s mM bc=w6 s s.size 0/\s.size<=bc+mM/\jR.length<=4*bc) (fun wr=>s.size-wr.iterPos (w.heap.size+1))
  case atStart=>
    refine⟨0, s.size,[],(Lib.IsBuilderF.of (Lib.fresh_isBuilder 303 5 w)).alloc _, ?_,((Below.refl _ w).alloc (Nat.le_refl _) _).alloc (by simp) _, rfl, by omega, by simp⟩
    have:=World.iter_heap (w.alloc (.cells #[.pointer none,.slice none 0 0] 303)) s 0
    simp_all
  case round=>
    obtain⟨bc, mM, jR, jf, C4, ZZ, Z0, aFQ, lo⟩:=hrel
    have fc:w.heap.size+1<wr.heap.size:=(Array.getElem?_eq_some_iff.1 C4).1
    by_cases bJ:bc<s.size
    · have xN:∀de,(Instr.next (.pointer (some ⟨w.heap.size+1, 0, none⟩)) true de).run Tryz.prog wr=_:=fun de=>Lib.run_next_any_at wr (w.heap.size+1) s bc de C4 bJ
      have apE:=ZR s bc bJ
      have rH:=decode_le s bc
      have aaa:=jf.iterAt C4 (bc+(Utf8.decode s bc).2)
      have Rw:=Lib.iterAt_heap wr (w.heap.size+1) s bc (bc+(Utf8.decode s bc).2) C4
      have L1:=Lib.below_iterAt ZZ (k:=w.heap.size+1) (by omega) s (bc+(Utf8.decode s bc).2)
      have ap8:w.heap.size<=(wr.iterAt (w.heap.size+1) s (bc+(Utf8.decode s bc).2)).heap.size:=by grind
      obtain⟨f, rfl⟩:∃f, mM=f+1:=⟨mM-1, by omega⟩
      generalize wr.iterAt (w.heap.size+1) s (bc+(Utf8.decode s bc).2)=dT at*
      have Aq:uB dT:=bk.below L1
      have dw:w.heap.size+1<dT.heap.size:=(Array.getElem?_eq_some_iff.1 Rw).1
      have FF:Calls Tryz.prog 177 #[.string s,.int .i64 bc,.int .i32 (Utf8.decode s bc).1] dT fun e aW=>e= .returned (.bool (A0 s bc (Utf8.decode s bc).1))/\Below dT.heap.size dT aW:=ZQ s bc (Nat.le_of_lt bJ) (Utf8.decode s bc).1 dT Aq.t.u
      obtain⟨fB, HZ⟩:∃fB, A0 s bc (Utf8.decode s bc).1=fB:=⟨_, rfl⟩
      rw [HZ]at FF
      go_wp2_with fail
      refine FF.mono fun e fb ⟨he, mb⟩=>?_
      subst he
      have FH:Below w.heap.size w fb:=L1.trans (mb.mono L1.size)
      have H5:fb.heap[w.heap.size+1]? = some (.stringIter s (bc+(Utf8.decode s bc).2)):=by rw [mb.block _ dw];exact Rw
      have Rx:=aaa.below mb
      have aab:uB fb:=bk.below FH
      have ap9:w.heap.size<=fb.heap.size:=FH.size
      clear Rw L1 mb aaa FF Aq
      cases fB with
      | true=>
        go_wp2_with (go_at_call 178;refine(Tryz.ap0 w.heap.size w.heap.size _ _ _ Rx (by rw [Lib.byteCells_length];omega) ap9).mono ?_)
        rintro e W1 ⟨rfl, h1, b1, dZ⟩
        go_wp2
        go_roundw
        case rel=>
          refine⟨bc+(Utf8.decode s bc).2, f, jR++ [s.get! bc], ?_, dZ.iter H5 (by omega), FH.trans b1, ?_, by omega, by grind⟩
          · rw [Lib.byteCells_append]
            have aqa:s.get! bc=s[bc]'bJ:=by cases s with|mk d=>exact getElem!_pos d bc bJ
            rw [aqa]
            exact Or.inr h1
          simp_all[w6,H4]
        case measure=>
          simp only [World.iterPos, dZ.iter H5 (by omega), C4]
          omega
      | false=>
        have s8:=ap4 (Utf8.decode s bc).1 (by omega) (by omega)
        have LW:=ZY (Utf8.decode s bc).1 fb aab.c
        go_wp2_with fail
        refine LW.mono fun e kz ⟨he, nO⟩=>?_
        subst he
        have aqb:w.heap.size+1<fb.heap.size:=(Array.getElem?_eq_some_iff.1 H5).1
        have aac:Below w.heap.size w kz:=FH.trans (nO.mono FH.size)
        have aad:kz.heap[w.heap.size+1]? = some (.stringIter s (bc+(Utf8.decode s bc).2)):=by rw [nO.block _ aqb];exact H5
        have aqc:=Rx.below nO
        have aqd:w.heap.size<=kz.heap.size:=aac.size
        clear H5 FH nO Rx LW aab
        go_wp2_with (go_at_call 179;refine(Tryz.ap1 w.heap.size w.heap.size _ _ s8.1 s8.2 _ aqc (by rw [Lib.byteCells_length];omega) aqd).mono ?_)
        rintro e W1 ⟨rfl, h1, b1, dZ⟩
        go_wp2
        go_roundw
        case rel=>
          have Ry:=Lib.runeCells_le (toLowerU ((Utf8.decode s bc).1:Int))
          rw [Lib.runeCells_length]at Ry
          refine⟨bc+(Utf8.decode s bc).2, f, jR++Lib.encodeRune (toLowerU (Utf8.decode s bc).1), ?_, dZ.iter aad (by omega), aac.trans b1, ?_, by omega, by grind⟩
          · rw [Lib.byteCells_append, Lib.byteCells_encodeRune];exact Or.inr h1
          simp_all[w6,H4]
        case measure=>
          simp only [World.iterPos, dZ.iter aad (by omega), C4]
          omega
    · have xN:∀de,(Instr.next (.pointer (some ⟨w.heap.size+1, 0, none⟩)) true de).run Tryz.prog wr=_:=fun de=>Lib.run_next_end_at wr (w.heap.size+1) s bc de C4 bJ
      go_wp2_with (go_at_call 180;refine(Tryz.ap2 w.heap.size w.heap.size jR _ jf (by omega)).mono ?_)
      rintro e W1 ⟨rfl, _, b1, _⟩
      go_wp2
      go_ret
      rw [ap5 s mM bc bJ, append_nil]at Z0
      subst Z0
      exact⟨rfl, ZZ.trans b1⟩
end Seal
namespace Seal
open Go Go.Lib Go.Shelf Go.Proofs Go.Proofs.YtifflnhooaophaaGreatDoor
variable {W:World}
theorem tabs2_of_reads (h1:VarReads Tryz.prog W "unicode/utf8.acceptRanges" Rows.laid_unicode_utf8_acceptRanges) (h2:VarReads Tryz.prog W "unicode.properties" Rows.laid_unicode_properties)
    (h3:VarReads Tryz.prog W "unicode.CaseRanges" Rows.laid_unicode_CaseRanges) (aG:VarReads Tryz.prog W "unicode.Digit" Rows.laid_unicode_Digit) (a6:VarReads Tryz.prog W "unicode.Letter" Rows.laid_unicode_Letter) (bq:VarReads Tryz.prog W "unicode/utf8.first" Rows.laid_unicode_utf8_first):uB W:=by
  refine⟨apR h1 h2 aG a6 bq, ?_⟩
  have h3:VarReads Tryz.prog W "unicode.CaseRanges" Pinned.caseRanges:=h3
  rw [Pinned.caseRanges_eq]at h3
  exact caseVar_of_reads (ρ:=Tryz.C2) {Tryz.ZX with} (by rfl) (by constructor<;>kernel_rfl) h3
theorem aae {P:Program} {B:Nat} {σ:Ab.c8} {h:Nat->Option Ab.Obj} {H:Ab.au} {w W:World} (k:@Ab.hK (Ab.n9 W) P B σ h H w) {g:Nat} {T:Array CaseRow} (hV:CaseVar g T W):CaseVar g T w:=by
  obtain⟨R, Rv, cap, h1, h2⟩:=hV
  refine⟨R, Rv, cap, Ab.zr k h1, fun i an=>?_⟩
  obtain⟨cU, cR, a3, a4, a5⟩:=h2 i an
  grind[Ab.zr]
theorem aqe {B:Nat} {σ:Ab.c8} {h:Nat->Option Ab.Obj} {H:Ab.au} {w W:World} (k:@Ab.hK (Ab.n9 W) Tryz.prog B σ h H w) (bk:uB W):uB w:=⟨ZV k bk.t, aae k bk.c⟩
theorem aqf (bk:uB W) {s:ByteArray} (al:s.size<=35184372088832) (H:Ab.au):@Ab.wV (Ab.n9 W) Tryz.prog 122 [.string s] H (.string (A1 s)):=
  Ab.HY rfl rfl ⟨_, _, Tryz.func122, rfl⟩ fun B σ h w k=>ap7 s w (aqe k bk) al
theorem aqg (bk:uB W) (r:Int) (H:Ab.au):@Ab.wV (Ab.n9 W) Tryz.prog 160 [.int .i32 r] H (.int .i32 (toLowerU r)):=
  Ab.HY rfl rfl ⟨_, _, Tryz.func160, rfl⟩ fun B σ h w k=>ZY r w (aae k bk.c)
def L2 (args:List Value):Option Value:=match args with
  | [.string s]=>cond (Nat.ble s.size 35184372088832) (some (.string (A1 s))) none
  | _=>none
def L3 (args:List Value):Option Value:=match args with
  | [.int .i32 r]=>some (.int .i32 (toLowerU r))
  | _=>none
noncomputable def A2:Code:=Ab.zo Tryz.prog 144 (Ab.aoN 182 316 320 48)
noncomputable def H6:Code:=Ab.zo Tryz.prog 236 Ab.aoM
noncomputable def A3:Code:=Ab.zo Tryz.prog 127 (Ab.aoS 182 316 59)
noncomputable abbrev FI:Ab.eA:=⟨fun f args H=>cond (Nat.beq f 122) (L2 args) (cond (Nat.beq f 160) (L3 args) (Rt.lG f args H)), fun f=>cond (Nat.beq f 144) (some A2) (cond (Nat.beq f 236) (some H6) (cond (Nat.beq f 127) (some A3) none))⟩
theorem aqh {args:List Value} {v:Value} (h:L2 args=some v):∃s, args= [.string s]/\s.size<=35184372088832/\v= .string (A1 s):=by
  unfold L2 at h
  split at h
  · rename_i s
    cases ak:Nat.ble s.size 35184372088832 with
    | false=>simp_all
    | true=>
      simp_all
  · cases h
theorem aqi {args:List Value} {v:Value} (h:L3 args=some v):∃r, args= [.int .i32 r]/\v= .int .i32 (toLowerU r):=by
  unfold L3 at h
  grind
theorem aqj (bk:uB W) (f:FuncId) (args:List Value) (H:Ab.au) (v:Value) (h:FI.lG f args H=some v):@Ab.wV (Ab.n9 W) Tryz.prog f args H v:=by
  have h:cond (Nat.beq f 122) (L2 args) (cond (Nat.beq f 160) (L3 args) (Rt.lG f args H))=some v:=h
  cases h1:Nat.beq f 122 with
  | true=>
    rw [h1]at h
    obtain rfl:=eq_of_beq_eq_true h1
    obtain⟨s, rfl, al, rfl⟩:=aqh h
    exact aqf bk al H
  | false=>
  rw [h1]at h
  cases h2:Nat.beq f 160 with
  | true=>
    rw [h2]at h
    obtain rfl:=eq_of_beq_eq_true h2
    obtain⟨r, rfl, rfl⟩:=aqi h
    exact aqg bk r H
  | false=>
  rw [h2]at h
  exact apT bk.t f args H v h
end Seal
namespace Seal
open Go Go.Ab
variable {W:World}
noncomputable abbrev gl:Program:=Go.Proofs.Tryz.prog
noncomputable abbrev b6:Code:=zo gl 144 id
noncomputable abbrev eP:Code:=zo gl 206 id
noncomputable abbrev w7:Code:=dd (dd b6)
noncomputable abbrev qZ:Code:=dk (dd (ea w7))
noncomputable abbrev yi:Code:=dd (dd w7)
noncomputable abbrev aaf:Code:=ea (dd w7)
noncomputable abbrev aX:Code:=dk (dd (dd (ea yi)))
noncomputable abbrev o9:Oper:=jt (ea (dd b6)) 0
noncomputable abbrev lF:Oper:=jt (ea (dd b6)) 1
theorem aqk [h7]:HW gl 206 (yg gl 206) 154 259 9 40 (.int .i64 192) (oQ (dk (dd eP))):=by
  have dC:=ZM (P:=gl) (ne:=jt (ea eP) 1) (t:=(match (jt (ea eP) 1).op with| .binOp _ t _ _ _=>t|_=>0)) (yt:=(match (jt (ea eP) 1).op with| .binOp _ _ _ _ t=>t|_=>0)) (ms:= #[]) (by rfl) (by rfl)
  refine⟨FC (by rfl),⟨nN (ea eP), nN (dk (dd eP)), jt (ea eP) 0, jt (ea eP) 1, by rfl, ZL (tys:=(FD (jt (ea eP) 0)).argTypes) (by rfl), by rfl, by rfl, by rfl, by rfl, dC.1, dC.2⟩, by rfl, ?_,⟨⟨jt (dk (dd eP)) 0, jt (dk (dd eP)) 1, jt (dk (dd eP)) 2, jt (dk (dd eP)) 3, by rfl,⟨by rfl, by rfl, by rfl⟩,⟨by rfl, by rfl, by rfl⟩,⟨by rfl, by rfl, by rfl⟩,⟨by rfl, by rfl, by rfl⟩⟩, by rfl⟩⟩
  simp_all[yg,KN]
theorem aag:CV gl 154 259 9 40 (.int .i64 192) 2 44 45 46 (oQ (ea aX)).toList:=
  ⟨⟨jt (ea aX) 0, jt (ea aX) 1, jt (ea aX) 2, jt (ea aX) 3, by rfl,⟨by rfl, by rfl, by rfl⟩,⟨by rfl, by rfl, by rfl⟩,⟨by rfl, by rfl, by rfl⟩,⟨by rfl, by rfl, by rfl⟩⟩, by rfl⟩
theorem L4 [h7] {bo:hQ} {R:Code} {i:Nat} {bD:Array Oper} (h:R= .seq (.region i bD false) .ret) (T:List Value) (H:au) (o:el) (U:(dN gl true R).f bo T H=some o):o.c6= .ret/\∃b3, jQ gl bo bD.toList bD.toList T H=some b3/\b3.H=o.H:=by
  subst h
  have U:nE (jQ gl bo bD.toList bD.toList T H) (fun T H=>some ⟨.ret, T, H⟩)=some o:=U
  obtain⟨b3, h1, h2⟩:=th U
  rcases h2 with⟨_, h2⟩|⟨ao, rfl⟩
  · grind
  · exfalso
    have:∀(l:List Oper) (T:List Value) (H:au), jQ gl bo bD.toList l T H=some o->o.c6= .normal:=by
      intro l
      induction l with
      | nil=>intro T H h;cases h;rfl
      | cons x l bg=>
        intro T H h
        have h:gW gl bo x ((iT bD.toList x.guard).f T) T H (jQ gl bo bD.toList l)=some o:=h
        unfold gW at h
        grind
    simp_all
theorem aah [h7] {bo:hQ} {all l:List Oper} {tt hY f cN:Nat} {kv:Value} {s b c d:Nat} (h:CV gl tt hY f cN kv s b c d l) (T:List Value) (H:au) (o:el) (U:jQ gl bo all l T H=some o):∃v,(oI gl tt).f (cf T s) H=some (v, H):=by
  obtain⟨⟨b3, dL, hJ, fL, rfl,⟨cU, cR, a3⟩, _⟩, _⟩:=h
  have U:gW gl bo b3 ((iT all b3.guard).f T) T H (jQ gl bo all [dL, hJ, fL])=some o:=U
  rw [a3]at U
  have U:gW gl bo b3 true T H (jQ gl bo all [dL, hJ, fL])=some o:=U
  unfold gW at U
  simp only at U
  rw [LI cU]at U
  grind[Q8]
noncomputable abbrev hZ:Nat:=48
theorem AV:gl.underlying gl.rt.typeAssertionError=some (.pointer (match gl.underlying gl.rt.typeAssertionError with|some (.pointer e)=>e|_=>0)):=by rfl
noncomputable abbrev aql:TypeDesc:=(gl.underlying 316).getD .bool
noncomputable abbrev aqm:TypeDesc:=(gl.underlying 320).getD .bool
theorem L5:gl.underlying 316=some aql:=by rfl
theorem aai:gl.underlying 320=some aqm:=by rfl
def aqn:TypeDesc->Bool| .interface _=>true|_=>false
theorem FJ {jn:TypeDesc} (h:aqn jn=false):∀ms, jn≠ .interface ms:=by rintro ms rfl;cases h
theorem aqo [h7] [eA] (dW:cz gl) {bo:hQ} (bI:iP gl bo):qX gl bo 2 hZ aX (dd (dd A2)) w7:=by
  have eX:w7= .seq (.seq (ea (ea w7)) (.cond (ZK (dd (ea w7))) qZ .skip)) (.seq aaf yi):=by rfl
  have a7:dd (dd A2)= .seq (.seq (ea (ea w7)) (.cond (ZK (dd (ea w7))) (zn o9 1 182 316 hZ qZ aX) .skip)) (.seq aaf (zn o9 1 182 320 hZ yi aX)):=by rfl
  have C5:aX= .seq (.region (nN (ea aX)) (oQ (ea aX)) false) .ret:=by rfl
  have A4:∀T H o,(dN gl true aX).f bo T H=some o->o.c6= .ret:=fun T H o h=>(L4 C5 T H o h).1
  have AW:∀T H o,(dN gl true aX).f bo T H=some o->∃v,(oI gl 154).f (cf T 2) H=some (v, H):=by
    grind[L4,aah,aag]
  rw [a7, eX]
  refine qX.seq bI A4 (nM.seq bI A4 (nM.plain dW bI (by rfl) (by rfl) (by rfl) (by rfl)) (nM.cond ?_ (nM.plain dW bI rfl rfl rfl rfl))) (qX.seq bI A4 (nM.plain dW bI (by rfl) (by rfl) (by rfl) (by rfl)) ?_)
  · refine nM.guard (tt:=154) dW bI A4 AW L5 (FJ (by rfl)) (by rfl) (by rfl) (by rfl) (by rfl) (by decide) ?_
    have ei:qZ= .seq (.region (nN (ea qZ)) (oQ (ea qZ)) true) .ret:=by rfl
    rw [ei]
    refine rZ.seq (rZ.any (t:=182) (y:=14) (p:=3) (m:=2) (harm:=[0, 1, 2]) (o:=jt (ea qZ) 3) dW bI AV L5 (FJ (by rfl)) (by rfl) (by rfl) (by rfl) (by decide) ?_ (by kernel_rfl))
    intro i an
    rcases mem_cons.1 an with rfl|an
    · exact⟨jt (ea qZ) 0, 12, by rfl, by rfl, by rfl, by decide, by decide,.inr ⟨by rfl, by decide, by decide⟩⟩
    rcases mem_cons.1 an with rfl|an
    · exact⟨jt (ea qZ) 1, 13, by rfl, by rfl, by rfl, by decide, by decide,.inr ⟨by rfl, by decide, by decide⟩⟩
    rcases mem_cons.1 an with rfl|an
    · exact⟨jt (ea qZ) 2, 14, by rfl, by rfl, by rfl, by decide, by decide,.inl ⟨by rfl, rfl, rfl⟩⟩
    cases an
  · refine qX.guard (tt:=154) dW bI A4 AW aai (FJ (by rfl)) (by rfl) (by decide) ?_
    have ei:yi= .seq (.seq (.region (nN (ea (ea yi))) (oQ (ea (ea yi))) false) (dd (ea yi))) (dd yi):=by rfl
    rw [ei]
    exact rZ.seq (rZ.seq (rZ.Zu (t:=182) (y:=31) (m:=jt (ea (ea yi)) 0) (o:=jt (ea (ea yi)) 1) dW bI AV aai (FJ (by rfl)) (by rfl) (by rfl) (by rfl) (by rfl) (by rfl) (by rfl) (by rfl) (by decide)))
theorem aqp [h7] [eA] (dW:cz gl):EV gl 144 A2:=by
  have e:A2= .seq (.region (nN (ea b6)) (oQ (ea b6)) false) (.seq (.region (nN (ea (dd b6))) #[o9] false) (dd (dd A2))):=by rfl
  have C5:aX= .seq (.region (nN (ea aX)) (oQ (ea aX)) false) .ret:=by rfl
  rw [e]
  refine ZD (g:=206) (t:=6) (s:=2) (k:=hZ) (b:=44) (c:=45) (d:=46) (fn:=yg gl 144) (i1:=nN (ea (dd b6))) (i9:=nN (ea aX)) (ops9:=oQ (ea aX)) (mk:=o9) (D:=lF) (cc:=FD lF) (Bc:=w7) dW (FC (by rfl)) (by rfl) (by rfl) (by rfl) (by rfl) (by rfl) (by rfl) (by rfl) (by rfl) (by rfl) (le_of_ble_eq_true (by rfl)) (le_of_ble_eq_true (by rfl)) (le_of_ble_eq_true (by rfl)) (by decide) (by decide) (by rfl) (by rfl) aqk aag (by decide) (by decide) (by decide) (by rfl) ?_
  intro bo bI
  rw [<- C5]
  exact aqo dW bI
noncomputable abbrev H7:Code:=zo gl 236 id
noncomputable abbrev a4:Code:=ea (dd (dd (dd H7)))
noncomputable abbrev a5:Code:=ea (dd (dd (dd (dd H7))))
noncomputable abbrev L6:Oper:=jt a4 5
noncomputable def aqq (bD:Array Oper) (l:List Operand):Bool:=l.all fun x=>match x with| .tmp i=>(s6 gl bD.toList).all fun o=>o.1.dst !=some i|_=>false
theorem aqr {bD:Array Oper} {l:List Operand} (h:aqq bD l=true):∀x∈l, ∃i, x= .tmp i/\∀o∈s6 gl bD.toList, o.1.dst≠some i:=by
  intro x ao
  have h1:=all_eq_true.1 h x ao
  grind
theorem aqs (dW:cz gl) [h7]:@EV _ FI gl 236 H6:=by
  letI:=FI
  have e:H6= .seq (ea H7) (.seq (ea (dd H7)) (.seq (ea (dd (dd H7))) (.seq (.region (nN a4) ((oQ a4).toList.take 5).toArray false) (.seq (.region (nN a5) (oQ a5) true) (.seq (.region (nN a4) #[{L6 with op:=.call (FD L6), dst:=none}] false) .ret))))):=by rfl
  rw [e]
  exact aoq (i4:=nN a4) (ops4:=oQ a4) (g:=261) (fn:=yg gl 236) (gn:=yg gl 261) (gc:=zo gl 261 id) (D:=L6) (cc:=FD L6) dW (FC (by rfl)) (by rfl) (by rfl) (by rfl) (by rfl) (by rfl) (fun o bM=>by
    have:∀o∈(oQ a4).toList.take 5, o.guard=none:=by
      have h:((oQ a4).toList.take 5).all (fun o=>o.guard.isNone)=true:=by rfl
      simp_all
    simp_all) (by rfl) (by rfl) (by rfl) (by rfl) rfl (by rfl) rfl (aqr (by rfl)) (FC (by rfl)) (by rfl) (by rfl) (fun args H=>rfl) rfl
noncomputable abbrev C6:Code:=zo gl 127 id
noncomputable abbrev uC:Code:=zo gl 184 id
noncomputable abbrev FK:Code:=dd (dd C6)
noncomputable abbrev zs:Code:=dd FK
noncomputable abbrev oe:Code:=dk (dd (ea (dd zs)))
noncomputable abbrev Rz:Oper:=jt (ea (dd C6)) 0
noncomputable abbrev aaj:Oper:=jt (ea (dd C6)) 1
theorem aqt [h7]:HW gl 184 (yg gl 184) 152 244 7 40 (.int .i64 192) (oQ (dk (dd uC))):=by
  have dC:=ZM (P:=gl) (ne:=jt (ea uC) 1) (t:=(match (jt (ea uC) 1).op with| .binOp _ t _ _ _=>t|_=>0)) (yt:=(match (jt (ea uC) 1).op with| .binOp _ _ _ _ t=>t|_=>0)) (ms:= #[]) (by rfl) (by rfl)
  refine⟨FC (by rfl),⟨nN (ea uC), nN (dk (dd uC)), jt (ea uC) 0, jt (ea uC) 1, by rfl, ZL (tys:=(FD (jt (ea uC) 0)).argTypes) (by rfl), by rfl, by rfl, by rfl, by rfl, dC.1, dC.2⟩, by rfl, ?_,⟨⟨jt (dk (dd uC)) 0, jt (dk (dd uC)) 1, jt (dk (dd uC)) 2, jt (dk (dd uC)) 3, by rfl,⟨by rfl, by rfl, by rfl⟩,⟨by rfl, by rfl, by rfl⟩,⟨by rfl, by rfl, by rfl⟩,⟨by rfl, by rfl, by rfl⟩⟩, by rfl⟩⟩
  simp_all[yg,KN]
theorem aak:CV gl 152 244 7 40 (.int .i64 192) 2 52 53 54 (oQ (ea oe)).toList:=
  ⟨⟨jt (ea oe) 0, jt (ea oe) 1, jt (ea oe) 2, jt (ea oe) 3, by rfl,⟨by rfl, by rfl, by rfl⟩,⟨by rfl, by rfl, by rfl⟩,⟨by rfl, by rfl, by rfl⟩,⟨by rfl, by rfl, by rfl⟩⟩, by rfl⟩
theorem aqu [h7] [eA] (dW:cz gl) {bo:hQ} (bI:iP gl bo):qX gl bo 2 59 oe (dd (dd A3)) FK:=by
  have eX:FK= .seq (ea FK) zs:=by rfl
  have a7:dd (dd A3)= .seq (ea FK) (zn Rz 1 182 316 59 zs oe):=by rfl
  have C5:oe= .seq (.region (nN (ea oe)) (oQ (ea oe)) false) .ret:=by rfl
  have A4:∀T H o,(dN gl true oe).f bo T H=some o->o.c6= .ret:=fun T H o h=>(L4 C5 T H o h).1
  have AW:∀T H o,(dN gl true oe).f bo T H=some o->∃v,(oI gl 152).f (cf T 2) H=some (v, H):=by
    grind[L4,aah,aak]
  rw [a7, eX]
  refine qX.seq bI A4 (nM.plain dW bI (by rfl) (by rfl) (by rfl) (by rfl)) ?_
  refine qX.guard (tt:=152) dW bI A4 AW L5 (FJ (by rfl)) (by rfl) (by decide) ?_
  have ei:zs= .seq (.region (nN (ea zs)) (oQ (ea zs)) false) (dd zs):=by rfl
  rw [ei]
  exact rZ.seq (rZ.Zu (t:=182) (y:=29) (m:=jt (ea zs) 0) (o:=jt (ea zs) 1) dW bI AV L5 (FJ (by rfl)) (by rfl) (by rfl) (by rfl) (by rfl) (by rfl) (by rfl) (by rfl) (by decide))
theorem aqv [h7] [eA] (dW:cz gl):EV gl 127 A3:=by
  have e:A3= .seq (.region (nN (ea C6)) (oQ (ea C6)) false) (.seq (.region (nN (ea (dd C6))) #[Rz] false) (dd (dd A3))):=by rfl
  have C5:oe= .seq (.region (nN (ea oe)) (oQ (ea oe)) false) .ret:=by rfl
  rw [e]
  refine ZD (g:=184) (t:=7) (s:=2) (k:=59) (b:=52) (c:=53) (d:=54) (fn:=yg gl 127) (i1:=nN (ea (dd C6))) (i9:=nN (ea oe)) (ops9:=oQ (ea oe)) (mk:=Rz) (D:=aaj) (cc:=FD aaj) (Bc:=FK) dW (FC (by rfl)) (by rfl) (by rfl) (by rfl) (by rfl) (by rfl) (by rfl) (by rfl) (by rfl) (by rfl) (le_of_ble_eq_true (by rfl)) (le_of_ble_eq_true (by rfl)) (le_of_ble_eq_true (by rfl)) (by decide) (by decide) (by rfl) (by rfl) aqt aak (by decide) (by decide) (by decide) (by rfl) ?_
  intro bo bI
  rw [<- C5]
  exact aqu dW bI
theorem orcS2_ok (bk:uB W):@Hl (n9 W) FI gl:=by
  letI:=n9 W
  letI:=FI
  have dW:=X4 good
  refine⟨aqj bk, fun f c h=>?_⟩
  have h:cond (Nat.beq f 144) (some A2) (cond (Nat.beq f 236) (some H6) (cond (Nat.beq f 127) (some A3) none))=some c:=h
  cases h1:Nat.beq f 144 with
  | true=>
    rw [h1]at h
    obtain rfl:=eq_of_beq_eq_true h1
    cases h
    exact aqp dW
  | false=>
  rw [h1]at h
  cases h2:Nat.beq f 236 with
  | true=>
    rw [h2]at h
    obtain rfl:=eq_of_beq_eq_true h2
    cases h
    exact aqs dW
  | false=>
  rw [h2]at h
  cases h3:Nat.beq f 127 with
  | true=>
    rw [h3]at h
    obtain rfl:=eq_of_beq_eq_true h3
    cases h
    exact aqv dW
  | false=>rw [h3]at h;cases h
end Seal
