/- texts of the kp, du behind the jV -/
import Derived.Test.YtifflnhooaophaaGreatDoorProg
import Derived.WalkKit
import Derived.KernelRfl
import Derived.Shelf.Unicode.PredsPay
import Derived.Shelf.Unicode.DecodeAny
import Derived.Lib.OthersKept
import Derived.Test.YtifflnhooaophaaGreatDoorRows
import Derived.PinnedBridge
import Derived.Lib.LaidU8T
import Derived.Lib.LaidRTab
import Derived.Lib.LaidTab
import Derived.BigCall
import Derived.Shelf.Strings.BuilderK
import Derived.Shelf.Strings.BuilderRune
import Derived.Shelf.Unicode.CaseLaid
import Derived.Lib.RuneBytes
import Derived.Shelf.Strings.MapGrows
import Derived.Lib.LaidCase
import Derived.Test.YtifflnhooaophaaGreatDoorAbD
set_option linter.unusedVariables false
set_option linter.unusedSimpArgs false
set_option linter.unusedSectionVars false
noncomputable section
set_option maxHeartbeats 4000000
open List Nat
namespace Go.Proofs
open Go.RowKit Go.Shelf Go.Lib
set_option maxRecDepth 100000
def Tryz.yp:Ren:=
{
  f:=fun x=>
    match x with
    | 198=>157
    | 261=>213
    | 311=>242
    | 312=>243
    | n=>n,
  t:=fun x=>
    match x with
    | 21=>21
    | 4=>4
    | 141=>341
    | 0=>0
    | 196=>373
    | 193=>370
    | 3=>3
    | 51=>338
    | 198=>375
    | 49=>47
    | 194=>371
    | 201=>378
    | 226=>403
    | 46=>75
    | 227=>404
    | n=>n,
  g:=fun x=>
    match x with
    | 5=>2
    | n=>n}
def Tryz.yq:Ren:=
{
  f:=fun x=>
    match x with
    | 200=>156
    | 261=>213
    | 311=>242
    | 312=>243
    | n=>n,
  t:=fun x=>
    match x with
    | 21=>21
    | 4=>4
    | 51=>338
    | 5=>5
    | 119=>339
    | 0=>0
    | 141=>341
    | 196=>373
    | 193=>370
    | 3=>3
    | 198=>375
    | 49=>47
    | 194=>371
    | 201=>378
    | 226=>403
    | 46=>75
    | 227=>404
    | n=>n,
  g:=fun x=>
    match x with
    | 7=>0
    | 8=>1
    | n=>n}
def Tryz.Es:Ren:=
{
  f:=fun x=>
    match x with
    | 197=>222
    | 260=>248
    | n=>n,
  t:=fun x=>
    match x with
    | 9=>9
    | 21=>21
    | 3=>3
    | 4=>4
    | 5=>5
    | 105=>350
    | 119=>339
    | 0=>0
    | 46=>75
    | 139=>417
    | 138=>416
    | n=>n,
  g:=fun x=>
    match x with
    | 3=>4
    | 4=>5
    | n=>n}
theorem Tryz.IC:Lays.n200 Tryz.prog Tryz.yq:=
{mixed:=Eq.refl true, f200:=Eq.trans Tryz.func156 (congrArg some (Eq.refl (Body.n200 Tryz.yq))),
  f261:=Eq.trans Tryz.func213 (congrArg some (Eq.refl (Body.n261 Tryz.yq))),
  f311:=Eq.trans Tryz.func242 (congrArg some (Eq.refl (Body.n311 Tryz.yq))),
  f312:=Eq.trans Tryz.func243 (congrArg some (Eq.refl (Body.n312 Tryz.yq))), t0:=Tryz.underlying0,
  a0:=Tryz.isAgg0, z0:=Tryz.sizeOf0, v0:=Tryz.zeroValue0, t3:=Tryz.underlying3, a3:=Tryz.isAgg3,
  z3:=Tryz.sizeOf3, v3:=Tryz.zeroValue3, t4:=Tryz.underlying4, a4:=Tryz.isAgg4, z4:=Tryz.sizeOf4,
  v4:=Tryz.zeroValue4, t5:=Tryz.underlying5, a5:=Tryz.isAgg5, z5:=Tryz.sizeOf5, v5:=Tryz.zeroValue5,
  t21:=Tryz.underlying21, a21:=Tryz.isAgg21, z21:=Tryz.sizeOf21, v21:=Tryz.zeroValue21,
  t46:=Tryz.underlying75, a46:=Tryz.isAgg75, z46:=Tryz.sizeOf75, v46:=Tryz.zeroValue75,
  t49:=Tryz.underlying47, a49:=Tryz.isAgg47, z49:=Tryz.sizeOf47, v49:=Tryz.zeroValue47,
  t51:=Tryz.underlying338, a51:=Tryz.isAgg338, z51:=Tryz.sizeOf338, v51:=Tryz.zeroValue338,
  t119:=Tryz.underlying339, a119:=Tryz.isAgg339, z119:=Tryz.sizeOf339, t141:=Tryz.underlying341,
  a141:=Tryz.isAgg341, z141:=Tryz.sizeOf341, v141:=Tryz.zeroValue341, t193:=Tryz.underlying370,
  a193:=Tryz.isAgg370, z193:=Tryz.sizeOf370, v193:=Tryz.zeroValue370, t194:=Tryz.underlying371,
  a194:=Tryz.isAgg371, z194:=Tryz.sizeOf371, v194:=Tryz.zeroValue371, t196:=Tryz.underlying373,
  a196:=Tryz.isAgg373, z196:=Tryz.sizeOf373, v196:=Tryz.zeroValue373, t198:=Tryz.underlying375,
  a198:=Tryz.isAgg375, z198:=Tryz.sizeOf375, v198:=Tryz.zeroValue375, t201:=Tryz.underlying378,
  a201:=Tryz.isAgg378, z201:=Tryz.sizeOf378, v201:=Tryz.zeroValue378, t226:=Tryz.underlying403,
  a226:=Tryz.isAgg403, z226:=Tryz.sizeOf403, v226:=Tryz.zeroValue403, t227:=Tryz.underlying404,
  a227:=Tryz.isAgg404, z227:=Tryz.sizeOf404, v227:=Tryz.zeroValue404,
  g7:=(by kernel_rfl), g8:=(by kernel_rfl)}
theorem Tryz.ID:Lays.n198 Tryz.prog Tryz.yp:=
{mixed:=Eq.refl true, f198:=Eq.trans Tryz.func157 (congrArg some (Eq.refl (Body.n198 Tryz.yp))),
  f261:=Eq.trans Tryz.func213 (congrArg some (Eq.refl (Body.n261 Tryz.yp))),
  f311:=Eq.trans Tryz.func242 (congrArg some (Eq.refl (Body.n311 Tryz.yp))),
  f312:=Eq.trans Tryz.func243 (congrArg some (Eq.refl (Body.n312 Tryz.yp))), t0:=Tryz.underlying0,
  a0:=Tryz.isAgg0, z0:=Tryz.sizeOf0, v0:=Tryz.zeroValue0, t3:=Tryz.underlying3, a3:=Tryz.isAgg3,
  z3:=Tryz.sizeOf3, v3:=Tryz.zeroValue3, t4:=Tryz.underlying4, a4:=Tryz.isAgg4, z4:=Tryz.sizeOf4,
  v4:=Tryz.zeroValue4, t21:=Tryz.underlying21, a21:=Tryz.isAgg21, z21:=Tryz.sizeOf21, v21:=Tryz.zeroValue21,
  t46:=Tryz.underlying75, a46:=Tryz.isAgg75, z46:=Tryz.sizeOf75, v46:=Tryz.zeroValue75,
  t49:=Tryz.underlying47, a49:=Tryz.isAgg47, z49:=Tryz.sizeOf47, v49:=Tryz.zeroValue47,
  t51:=Tryz.underlying338, a51:=Tryz.isAgg338, z51:=Tryz.sizeOf338, v51:=Tryz.zeroValue338,
  t141:=Tryz.underlying341, a141:=Tryz.isAgg341, z141:=Tryz.sizeOf341, v141:=Tryz.zeroValue341,
  t193:=Tryz.underlying370, a193:=Tryz.isAgg370, z193:=Tryz.sizeOf370, v193:=Tryz.zeroValue370,
  t194:=Tryz.underlying371, a194:=Tryz.isAgg371, z194:=Tryz.sizeOf371, v194:=Tryz.zeroValue371,
  t196:=Tryz.underlying373, a196:=Tryz.isAgg373, z196:=Tryz.sizeOf373, v196:=Tryz.zeroValue373,
  t198:=Tryz.underlying375, a198:=Tryz.isAgg375, z198:=Tryz.sizeOf375, v198:=Tryz.zeroValue375,
  t201:=Tryz.underlying378, a201:=Tryz.isAgg378, z201:=Tryz.sizeOf378, v201:=Tryz.zeroValue378,
  t226:=Tryz.underlying403, a226:=Tryz.isAgg403, z226:=Tryz.sizeOf403, v226:=Tryz.zeroValue403,
  t227:=Tryz.underlying404, a227:=Tryz.isAgg404, z227:=Tryz.sizeOf404, v227:=Tryz.zeroValue404,
  g5:=(by kernel_rfl)}
theorem Tryz.QB:Lays.n197 Tryz.prog Tryz.Es:=
{mixed:=Eq.refl true, f197:=Eq.trans Tryz.func222 (congrArg some (Eq.refl (Body.n197 Tryz.Es))),
  f260:=Eq.trans Tryz.func248 (congrArg some (Eq.refl (Body.n260 Tryz.Es))), t0:=Tryz.underlying0,
  a0:=Tryz.isAgg0, z0:=Tryz.sizeOf0, v0:=Tryz.zeroValue0, t3:=Tryz.underlying3, a3:=Tryz.isAgg3,
  z3:=Tryz.sizeOf3, v3:=Tryz.zeroValue3, t4:=Tryz.underlying4, a4:=Tryz.isAgg4, z4:=Tryz.sizeOf4,
  v4:=Tryz.zeroValue4, t5:=Tryz.underlying5, a5:=Tryz.isAgg5, z5:=Tryz.sizeOf5, v5:=Tryz.zeroValue5,
  t9:=Tryz.underlying9, a9:=Tryz.isAgg9, z9:=Tryz.sizeOf9, v9:=Tryz.zeroValue9, t21:=Tryz.underlying21,
  a21:=Tryz.isAgg21, z21:=Tryz.sizeOf21, v21:=Tryz.zeroValue21, t46:=Tryz.underlying75, a46:=Tryz.isAgg75,
  z46:=Tryz.sizeOf75, v46:=Tryz.zeroValue75, t105:=Tryz.underlying350, a105:=Tryz.isAgg350,
  z105:=Tryz.sizeOf350, v105:=Tryz.zeroValue350, t119:=Tryz.underlying339, a119:=Tryz.isAgg339,
  z119:=Tryz.sizeOf339, t138:=Tryz.underlying416, a138:=Tryz.isAgg416, z138:=Tryz.sizeOf416,
  v138:=Tryz.zeroValue416, t139:=Tryz.underlying417, a139:=Tryz.isAgg417, z139:=Tryz.sizeOf417,
  v139:=Tryz.zeroValue417, g3:=(by kernel_rfl),
  g4:=(by kernel_rfl)}
end Go.Proofs
set_option maxRecDepth 100000
namespace Go.Ab
open Go Go.Lib
variable {P:Program} {B:Nat} {σ:eH} {h:Nat->Option Obj} {H:an} {w W:World}
theorem tL (k:@fV (lq W) P B σ h H w) {a:Addr} {v:Value} (c:W.cell? a=some v):w.cell? a=some v:=by
  letI:=lq W
  have b:a.block<W.heap.size:=by
    grind[World.cell?]
  have e:w.heap[a.block]? = W.heap[a.block]? := k.base _ (Nat.lt_of_lt_of_le b k.d3)
  simp_all[World.cell?]
theorem QC (k:@fV (lq W) P B σ h H w) {n:String} {v:Array Value} (b:W.var? P n=some v):w.var? P n=some v:=by
  letI:=lq W
  unfold World.var? at*
  cases c:P.globalNamed n with
  | none=>simp_all
  | some g=>
    have a:g<W.heap.size:=by
      grind
    have e:w.heap[g]? = W.heap[g]? := k.base _ (Nat.lt_of_lt_of_le a k.d3)
    simp_all
theorem aeK (k:@fV (lq W) P B σ h H w) {n:String} {a:IntKind} {b:LI} (c:TabIs P W n a b):TabIs P w n a b:=QC k c
theorem QD (k:@fV (lq W) P B σ h H w) {g:Nat} {T:RTab} (n:RVar g T W):RVar g T w:=by
  have⟨o, p, q, a, b, c, d, e, f, j, l, r, s, t, u, v, C, F, I⟩:=n
  refine⟨o, p, tL k q, a, b, c, d, e, f, j, l, tL k r, tL k s, tL k t, u, v, fun i m=>?_, fun i m=>?_, I⟩
  · have⟨x, y, z⟩:=C i m
    grind[tL]
  · have⟨x, y, z⟩:=F i m
    grind[tL]
theorem AS {f:FuncId} {args:aj} {v:Value} (b:args.all uL=true) (i:ON v=true) (d:∃fn c, P.funcs[f]? = some fn/\fn.body=some c)
    (g:∀(B:Nat) (σ:eH) (h:Nat->Option Obj) (w:World), @fV (lq W) P B σ h H w->Calls P f args.toArray w fun e aE=>e= .returned v/\RowKit.Below w.heap.size w aE):@tu (lq W) P f args H v:=by
  intro B σ h w fb k a
  have e:fb=args.toArray:=Array.ext' (by rw [a.uL b])
  subst e
  refine⟨d, CallsIn.mono (callsIn_wide.2 (g B σ h w k)) ?_⟩
  simp_all[ach]
end Go.Ab
namespace Seal
open Go Go.Ab Go.Lib Go.Proofs
variable {W:World}
theorem aeL (a:TabIs Tryz.prog W "unicode.properties" .u8 propertiesTab) (b:RVar 1 letterT W) {r:Int} (c:-2147483648<=r) (d:r<=2147483647) (H:an):@tu (lq W) Tryz.prog 156 [.int .i32 r] H (.bool (isLetterU r)):=
  AS rfl rfl ⟨_, _, Tryz.func156, rfl⟩ fun B σ h w k=>Any.unicode_IsLetter_all Tryz.IC ao r w c d (aeK k a) (QD k b)
theorem aeM (a:RVar 2 digitT W) {r:Int} (b:-2147483648<=r) (c:r<=2147483647) (H:an):@tu (lq W) Tryz.prog 157 [.int .i32 r] H (.bool (isDigitU r)):=
  AS rfl rfl ⟨_, _, Tryz.func157, rfl⟩ fun B σ h w k=>Any.unicode_IsDigit_all Tryz.ID r w b c (QD k a)
end Seal
namespace Seal
open Go Go.Lib Go.Proofs Go.RowKit
set_option maxRecDepth 1000000 in
theorem aeN (s:ByteArray) (a c:Int) (b:c≠65533) (w:World):Calls Tryz.prog 177 #[.string s,.int .i64 a,.int .i32 c] w fun e aE=>e= .returned (.bool false)/\aE=w:=by
  go_enter Tryz.func177, Tryz.ntmps177
  go_wp2
  go_ret
  simp_all
set_option maxRecDepth 1000000 in
theorem aeO (s:ByteArray) (a:Nat) (g:a<=s.size) (w:World) (b:Utf8Tabs 4 5 w):Calls Tryz.prog 177 #[.string s,.int .i64 a,.int .i32 65533] w fun e aE=>e= .returned (.bool (decide ((decodeGo (s.extract a s.size)).2=1)))/\Below w.heap.size w aE:=by
  have c:=Any.utf8_DecodeRuneInString Tryz.QB (s.extract a s.size) w b
  go_enter Tryz.func177, Tryz.ntmps177
  go_wp2_with fail
  refine c.mono fun e aM ⟨d, f⟩=>?_
  subst d
  go_wp2_with fail
  go_ret
  refine⟨?_, f⟩
  show Ending.returned (.bool (((decodeGo (s.extract a s.size)).2:Int)==1))=_
  have e:(((decodeGo (s.extract a s.size)).2:Int)==1)=decide ((decodeGo (s.extract a s.size)).2=1):=by
    grind
  rw [e]
set_option maxRecDepth 1000000 in
theorem QE (s:ByteArray) (a:Nat) (d:a<=s.size) (c:Int) (w:World) (f:Utf8Tabs 4 5 w):Calls Tryz.prog 177 #[.string s,.int .i64 a,.int .i32 c] w fun e aE=>e= .returned (.bool (decide (c=65533/\(decodeGo (s.extract a s.size)).2=1)))/\Below w.heap.size w aE:=by
  by_cases b:c=65533
  · subst b
    refine(aeO s a d w f).mono fun e aE ⟨g, h⟩=>⟨?_, h⟩
    grind
  · refine(aeN s a c b w).mono fun e aE ⟨g, i⟩=>⟨?_, i▸Below.refl _ _⟩
    simp_all
def sB (c:Int) (first:Bool):Bool:=isLetterU c||!first&&(isDigitU c||c==45||c==95||c==46)
set_option maxRecDepth 1000000 in
theorem aeP (c:Int) (first:Bool) (f:-2147483648<=c) (g:c<=2147483647) (w:World) (h:TabIs Tryz.prog w "unicode.properties" .u8 propertiesTab) (i:RVar 1 letterT w) (i3:∀aE, Below w.heap.size w aE->RVar 2 digitT aE):
    Calls Tryz.prog 181 #[.int .i32 c,.bool first] w fun e aE=>e= .returned (.bool (sB c first))/\Below w.heap.size w aE:=by
  have j:=Any.unicode_IsLetter_all Tryz.IC ao c w f g h i
  go_enter Tryz.func181, Tryz.ntmps181
  go_wp2_with fail
  refine j.mono fun e aM ⟨a, b⟩=>?_
  subst a
  have k:=Any.unicode_IsDigit_all Tryz.ID c aM f g (i3 aM b)
  cases o:isLetterU c with
  | true=>
    go_wp2_with fail
    go_ret
    simp_all[sB]
  | false=>
    cases first with
    | true=>
      go_wp2_with fail
      go_ret
      simp_all[sB]
    | false=>
      go_wp2_with fail
      refine k.mono fun e ca ⟨a, d⟩=>?_
      subst a
      have l:=b.trans (d.mono b.size)
      cases a2:isDigitU c with
      | true=>
        go_wp2_with fail
        go_ret
        simp_all[sB]
      | false=>
        by_cases m:c=45
        · subst m
          go_wp2_with fail
          go_ret
          simp_all[sB]
        by_cases n:c=95
        · subst n
          go_wp2_with fail
          go_ret
          simp_all[sB]
        have p:(c==45)=false:=a1
        have q:(c==95)=false:=a1
        go_wp2_with fail
        go_ret
        simp_all[sB]
end Seal
namespace Seal
open Go Go.Lib Go.Proofs Go.RowKit
structure pW (w:World):Prop where
  u:Utf8Tabs 4 5 w
  p:TabIs Tryz.prog w "unicode.properties" .u8 propertiesTab
  l:RVar 1 letterT w
  d:RVar 2 digitT w
theorem pW.ks {w aE:World} (h:pW w) (b:∀a v, w.cell? a=some v->aE.cell? a=some v) (B:∀n v, w.var? Tryz.prog n=some v->aE.var? Tryz.prog n=some v):pW aE:=by
  have fU:∀ {g:Nat} {T:RTab}, RVar g T w->RVar g T aE:=by
    rintro g T ⟨C, F, f, j, k, m, o, q, r, s, t, H, I, J, K, L, M, N, S⟩
    refine⟨C, F, b _ _ f, j, k, m, o, q, r, s, t, b _ _ H, b _ _ I, b _ _ J, K, L, fun i e=>?_, fun i e=>?_, S⟩
    · have⟨x, y, z⟩:=M i e
      simp_all
    · have⟨x, y, z⟩:=N i e
      simp_all
  exact⟨⟨fun c f=>b _ _ (h.u.1 c f), fun i e=>⟨b _ _ (h.u.2 i e).1, b _ _ (h.u.2 i e).2⟩⟩, B _ _ h.p, fU h.l, fU h.d⟩
theorem pW.below {w aE:World} (h:pW w) (d:Below w.heap.size w aE):pW aE:=by
  refine h.ks (fun a v f=>?_) (fun n v e=>?_)
  · have b:a.block<w.heap.size:=by
      grind[World.cell?]
    rw [d.cell b];exact f
  · unfold World.var? at*
    cases i:Tryz.prog.globalNamed n with
    | none=>simp_all
    | some g=>
      rw [i]at e
      have b:g<w.heap.size:=by
        grind
      show(match aE.heap[g]? with|some (.cells ag _ _)=>some ag|_=>none)=some v
      rw [d.block g b];exact e
def D1 (n:Int):Int:=if n<1\/n>24 then 41 else 0
def u3 (s:ByteArray) (bb:Nat) (c:Int):Bool:=decide (c=65533/\(decodeGo (s.extract bb s.size)).2=1)
def yr (s:ByteArray) (bb:Nat) (n:Int):Bool:=u3 s bb (Utf8.decode s bb).1||!sB (Utf8.decode s bb).1 (n==0)
def my (s:ByteArray):Nat->Nat->Int->Int
  | 0, bb, n=>D1 n
  | b+1, bb, n=>if bb<s.size then(if yr s bb n then 41 else my s b (bb+(Utf8.decode s bb).2) (n+1))else D1 n
theorem aeQ (s:ByteArray) (b bb:Nat) (n:Int) (h:¬bb<s.size):my s b bb n=D1 n:=by
  cases b with
  | zero=>rfl
  | succ b=>simp [my, h]
theorem QF (s:ByteArray) (bb:Nat) (h:bb<s.size):1<=(Utf8.decode s bb).2:=by
  by_cases a:(s[bb]'h).toNat<128
  · simp_all[decode_ascii]
  simp_all[decode_high]
theorem aeR {w wr:World} {s:ByteArray} {p:Nat} (h:Below w.heap.size w wr):Below w.heap.size w (wr.iterAt w.heap.size s p):=by
  refine h.trans ⟨rfl, rfl, rfl, ?_, fun k a=>?_⟩
  · simp [World.iterAt]
  grind[World.iterAt]
theorem aeS {k:Nat} {wr:World} {s:ByteArray} {p q:Nat} (h:wr.heap[k]? = some (.stringIter s q)):(wr.iterAt k s p).heap[k]? = some (.stringIter s p):=by
  grind[World.iterAt]
set_option maxRecDepth 1000000 in
theorem aeT (s:ByteArray) (ah:s.size<4611686018427387904) (w:World) (K:pW w):Calls Tryz.prog 123 #[.string s] w fun e aE=>e= .returned (.int .i64 (my s s.size 0 0))/\Below w.heap.size w aE:=by
  go_enter Tryz.func123, Tryz.ntmps123
  go_wp2_with fail
  go_loopw [3] (fun n aE=>∃(a b:Nat) (k:Int), aE.heap[w.heap.size]? = some (.stringIter s a)/\Below w.heap.size w aE/\n= .int .i64 k/\my s b a k=my s s.size 0 0/\s.size<=a+b/\0<=k/\k<=a) (fun _ aE=>s.size-aE.iterPos w.heap.size)
  case atStart=>exact⟨0, s.size, 0, World.iter_heap w s 0, Below.alloc (Below.refl _ _) (Nat.le_refl _) _, rfl, rfl, by omega, by omega, by omega⟩
  case round=>
    obtain⟨a, b, k, j, m, rfl, z, d5, S, V⟩:=hrel
    by_cases v:a<s.size
    · have B:∀o,(Instr.next (.pointer (some ⟨w.heap.size, 0, none⟩)) true o).run Tryz.prog wr=_:=fun o=>run_next_any_at wr w.heap.size s a o j v
      have W:=QF s a v
      have f:Below w.heap.size w (wr.iterAt w.heap.size s (a+(Utf8.decode s a).2)):=aeR m
      have g:(wr.iterAt w.heap.size s (a+(Utf8.decode s a).2)).heap[w.heap.size]? = some (.stringIter s (a+(Utf8.decode s a).2)):=aeS j
      have X:=decode_le s a
      generalize wr.iterAt w.heap.size s (a+(Utf8.decode s a).2)=aM at*
      have L:Calls Tryz.prog 177 #[.string s,.int .i64 a,.int .i32 (Utf8.decode s a).1] aM fun e aE=>e= .returned (.bool (u3 s a (Utf8.decode s a).1))/\Below aM.heap.size aM aE:=QE s a (Nat.le_of_lt v) (Utf8.decode s a).1 aM (K.below f).u
      have C:=(Array.getElem?_eq_some_iff.1 g).1
      obtain⟨dD, F⟩:∃dD, u3 s a (Utf8.decode s a).1=dD:=⟨_, rfl⟩
      rw [F]at L
      go_wp2_with fail
      refine L.mono fun e ca ⟨H, q⟩=>?_
      subst H
      have c:=f.trans (q.mono f.size)
      have h:ca.heap[w.heap.size]? = some (.stringIter s (a+(Utf8.decode s a).2)):=by rw [q.block _ C];exact g
      clear g f q m
      cases dD with
      | true=>
        go_wp2_with fail
        go_ret
        refine⟨?_, c⟩
        rw [<- z]
        cases b with
        | zero=>omega
        | succ b=>simp_all[my,yr]
      | false=>
        have r:=K.below c
        have M:=aeP (Utf8.decode s a).1 (k==0) U U ca r.p r.l (fun aE aH=>(r.below aH).d)
        obtain⟨I, J⟩:∃I, sB (Utf8.decode s a).1 (k==0)=I:=⟨_, rfl⟩
        rw [J]at M
        go_wp2_with fail
        refine M.mono fun e N ⟨H, t⟩=>?_
        subst H
        have x:=(Array.getElem?_eq_some_iff.1 h).1
        have i:Below w.heap.size w N:=c.trans (t.mono c.size)
        have y:N.heap[w.heap.size]? = some (.stringIter s (a+(Utf8.decode s a).2)):=by rw [t.block _ x];exact h
        clear h c t
        cases I with
        | false=>
          go_wp2_with fail
          go_ret
          refine⟨?_, i⟩
          rw [<- z]
          cases b with
          | zero=>omega
          | succ b=>simp_all[my,yr]
        | true=>
          have aw9:k+1<9223372036854775808:=U
          go_wp2_with fail
          go_roundw
          case rel=>
            cases b with
            | zero=>omega
            | succ b=>
              refine⟨a+(Utf8.decode s a).2, b, k+1, y, i, ?_, ?_, by omega, by omega, by omega⟩
              · rfl
              simp_all[my,yr]
          case measure=>
            grind[World.iterPos]
    · have B:∀o,(Instr.next (.pointer (some ⟨w.heap.size, 0, none⟩)) true o).run Tryz.prog wr=_:=fun o=>run_next_end_at wr w.heap.size s a o j v
      rw [aeQ s b a k v]at z
      by_cases h1:k<1
      · go_wp2_with fail
        go_ret
        simp_all[D1]
      by_cases h2:k>24
      · go_wp2_with fail
        go_ret
        simp_all[D1]
      go_wp2_with fail
      go_ret
      exact⟨by rw [<- z];simp [D1, h1, h2], m⟩
end Seal
namespace Seal
open Go Go.Ab Go.Lib Go.Proofs
variable {W:World}
theorem QG {B:Nat} {σ:Ab.eH} {h:Nat->Option Ab.Obj} {H:Ab.an} {w:World} (k:@fV (lq W) Tryz.prog B σ h H w) (b:pW W):pW w:=b.ks (fun a v c=>tL k c) (fun n v d=>QC k d)
theorem aeU (a:pW W) {s:ByteArray} (ah:s.size<4611686018427387904) (H:Ab.an):@tu (lq W) Tryz.prog 123 [.string s] H (.int .i64 (my s s.size 0 0)):=
  AS rfl rfl ⟨_, _, Tryz.func123, rfl⟩ fun B σ h w k=>aeT s ah w (QG k a)
end Seal
namespace Seal
open Go Go.Lib Go.Shelf Go.Proofs Go.Proofs.YtifflnhooaophaaGreatDoor
variable {W:World}
theorem aeV:RExtra Tryz.prog Tryz.yq:=⟨ao, by rfl, by rfl, by rfl, by rfl, by rfl, by rfl, by rfl⟩
theorem aeW:RExtra Tryz.prog Tryz.yp:=⟨ao, by rfl, by rfl, by rfl, by rfl, by rfl, by rfl, by rfl⟩
theorem aeX:U8Extra Tryz.prog Tryz.Es:=by constructor<;>kernel_rfl
theorem axa:(Rows.laid_unicode_utf8_acceptRanges:DataW Unit)=acceptData:=ao
theorem axb:(Rows.laid_unicode_properties:DataW Unit)=tabData .u8 propertiesTab:=ao
theorem aeY {P:Program} {a:String} {k:IntKind} {l:LI} {g:Nat} {t e:TypeId} {n:Nat}
    (o:P.globalNamed a=some g) (c:(P.globals[g]?).map (·.type)=some t) (q:P.underlying t=some (.array n e)) (r:P.underlying e=some (.int k)) (d:P.cellsOf e=1) (f:P.cellsOf t=n)
    (h:VarReads P W a (tabData k l)):TabIs P W a k l:=by
  have⟨s, ME, ag, m, p, i, j, b, a2⟩:=h
  obtain rfl:=Option.some.inj (o.symm.trans i)
  obtain rfl:=Option.some.inj (c.symm.trans j)
  unfold TabIs
  rw [b, <- cells_of_tab q r d f a2]
theorem aeZ (d:VarReads Tryz.prog W "unicode/utf8.acceptRanges" Rows.laid_unicode_utf8_acceptRanges) (e:VarReads Tryz.prog W "unicode.properties" Rows.laid_unicode_properties)
    (a:VarReads Tryz.prog W "unicode.Digit" Rows.laid_unicode_Digit) (b:VarReads Tryz.prog W "unicode.Letter" Rows.laid_unicode_Letter) (c:VarReads Tryz.prog W "unicode/utf8.first" Rows.laid_unicode_utf8_first):pW W:=by
  refine⟨?_, ?_, ?_, ?_⟩
  · have c:VarReads Tryz.prog W "unicode/utf8.first" Pinned.utf8First:=c
    exact utf8Tabs_of_readsT {Tryz.QB with} aeX c d
  · exact aeY ao ao ao ao ao ao e
  · have b:VarReads Tryz.prog W "unicode.Letter" Pinned.letter:=b
    exact rvar_of_reads {Tryz.IC with} aeV ao ao b
  · have a:VarReads Tryz.prog W "unicode.Digit" Pinned.digit:=a
    exact rvar_of_reads {Tryz.ID with} aeW ao ao a
end Seal
namespace Seal
open Go Go.Lib Go.Shelf Go.Proofs
variable {W:World}
def Et (args:aj):Option Value:=match args with
  | [.string s]=>cond (blt s.size 4611686018427387904) (some (.int .i64 (my s s.size 0 0))) none
  | _=>none
def ys (F:Int->Bool) (args:aj):Option Value:=match args with
  | [.int .i32 r]=>cond (decide (-2147483648<=r)&&decide (r<=2147483647)) (some (.bool (F r))) none
  | _=>none
@[reducible] def IE:Ab.ct:=⟨fun f args _=>cond (beq f 123) (Et args) (cond (beq f 156) (ys isLetterU args) (cond (beq f 157) (ys isDigitU args) none)), fun _=>none⟩
theorem ae0 {args:aj} {v:Value} (h:Et args=some v):∃s, args= [.string s]/\s.size<4611686018427387904/\v= .int .i64 (my s s.size 0 0):=by
  unfold Et at h
  split at h
  · rename_i s
    cases a:blt s.size 4611686018427387904 with
    | false=>simp_all
    | true=>
      simp_all
  · cases h
theorem QH {F:Int->Bool} {args:aj} {v:Value} (h:ys F args=some v):∃r, args= [.int .i32 r]/\-2147483648<=r/\r<=2147483647/\v= .bool (F r):=by
  unfold ys at h
  grind
theorem ae1 (c:pW W) (f:FuncId) (args:aj) (H:Ab.an) (v:Value) (h:IE.h3 f args H=some v):@Ab.tu (Ab.lq W) Tryz.prog f args H v:=by
  have h:cond (beq f 123) (Et args) (cond (beq f 156) (ys isLetterU args) (cond (beq f 157) (ys isDigitU args) none))=some v:=h
  cases e:beq f 123 with
  | true=>
    obtain rfl:=eq_of_beq_eq_true e
    obtain⟨s, rfl, ah, rfl⟩:=ae0 h
    exact aeU c ah H
  | false=>
  rw [e]at h
  cases g:beq f 156 with
  | true=>
    obtain rfl:=eq_of_beq_eq_true g
    obtain⟨r, rfl, a, b, rfl⟩:=QH h
    exact aeL c.p c.l a b H
  | false=>
  rw [g]at h
  cases i:beq f 157 with
  | true=>
    obtain rfl:=eq_of_beq_eq_true i
    obtain⟨r, rfl, a, b, rfl⟩:=QH h
    exact aeM c.d a b H
  | false=>rw [i]at h;cases h
theorem good:Ab.Dp Tryz.prog=true:=by kernel_rfl
end Seal
namespace Go.Proofs
open Go.RowKit Go.Shelf Go.Lib
set_option maxRecDepth 100000
def Tryz.yu:Ren:=
{f:=fun x=>
    match x with
    | 204=>160
    | 262=>214
    | 274=>264
    | 275=>265
    | 313=>244
    | n=>n,
  t:=fun x=>
    match x with
    | 46=>75
    | 51=>338
    | 160=>405
    | 162=>382
    | 203=>380
    | 206=>432
    | 208=>434
    | n=>n,
  g:=fun x=>
    match x with
    | 13=>3
    | n=>n}
theorem Tryz.QI:Lays.n204 Tryz.prog Tryz.yu:=
{mixed:=Eq.refl true,
  f204:=Eq.trans Tryz.func160 (congrArg some (Eq.refl (Body.n204 Tryz.yu))),
  f262:=Eq.trans Tryz.func214 (congrArg some (Eq.refl (Body.n262 Tryz.yu))),
  f274:=Eq.trans Tryz.func264 (congrArg some (Eq.refl (Body.n274 Tryz.yu))),
  f275:=Eq.trans Tryz.func265 (congrArg some (Eq.refl (Body.n275 Tryz.yu))),
  f313:=Eq.trans Tryz.func244 (congrArg some (Eq.refl (Body.n313 Tryz.yu))),
  t0:=Tryz.underlying0,
  a0:=Tryz.isAgg0,
  z0:=Tryz.sizeOf0,
  v0:=Tryz.zeroValue0,
  t3:=Tryz.underlying3,
  a3:=Tryz.isAgg3,
  z3:=Tryz.sizeOf3,
  v3:=Tryz.zeroValue3,
  t4:=Tryz.underlying4,
  a4:=Tryz.isAgg4,
  z4:=Tryz.sizeOf4,
  v4:=Tryz.zeroValue4,
  t21:=Tryz.underlying21,
  a21:=Tryz.isAgg21,
  z21:=Tryz.sizeOf21,
  v21:=Tryz.zeroValue21,
  t46:=Tryz.underlying75,
  a46:=Tryz.isAgg75,
  z46:=Tryz.sizeOf75,
  v46:=Tryz.zeroValue75,
  t51:=Tryz.underlying338,
  a51:=Tryz.isAgg338,
  z51:=Tryz.sizeOf338,
  v51:=Tryz.zeroValue338,
  t160:=Tryz.underlying405,
  a160:=Tryz.isAgg405,
  z160:=Tryz.sizeOf405,
  v160:=Tryz.zeroValue405,
  t162:=Tryz.underlying382,
  a162:=Tryz.isAgg382,
  z162:=Tryz.sizeOf382,
  v162:=Tryz.zeroValue382,
  t203:=Tryz.underlying380,
  a203:=Tryz.isAgg380,
  z203:=Tryz.sizeOf380,
  v203:=Tryz.zeroValue380,
  t206:=Tryz.underlying432,
  a206:=Tryz.isAgg432,
  z206:=Tryz.sizeOf432,
  v206:=Tryz.zeroValue432,
  t208:=Tryz.underlying434,
  a208:=Tryz.isAgg434,
  z208:=Tryz.sizeOf434,
  v208:=Tryz.zeroValue434,
  g13:=by kernel_rfl}
def Tryz.AT:Ren:=
{f:=fun x=>
    match x with
    | 167=>178
    | 168=>179
    | 240=>223
    | 242=>224
    | 276=>249
    | 278=>250
    | n=>n,
  t:=fun x=>
    match x with
    | 37=>22
    | 46=>75
    | 51=>338
    | 70=>301
    | 72=>303
    | 75=>306
    | 80=>310
    | 164=>386
    | n=>n,
  g:=fun x=>
    match x with
    | n=>n}
theorem Tryz.ae2:Lays.n167 Tryz.prog Tryz.AT:=
{mixed:=Eq.refl true,
  f167:=Eq.trans Tryz.func178 (congrArg some (Eq.refl (Body.n167 Tryz.AT))),
  f240:=Eq.trans Tryz.func223 (congrArg some (Eq.refl (Body.n240 Tryz.AT))),
  f276:=Eq.trans Tryz.func249 (congrArg some (Eq.refl (Body.n276 Tryz.AT))),
  t0:=Tryz.underlying0,
  a0:=Tryz.isAgg0,
  z0:=Tryz.sizeOf0,
  v0:=Tryz.zeroValue0,
  t4:=Tryz.underlying4,
  a4:=Tryz.isAgg4,
  z4:=Tryz.sizeOf4,
  v4:=Tryz.zeroValue4,
  t5:=Tryz.underlying5,
  a5:=Tryz.isAgg5,
  z5:=Tryz.sizeOf5,
  v5:=Tryz.zeroValue5,
  t9:=Tryz.underlying9,
  a9:=Tryz.isAgg9,
  z9:=Tryz.sizeOf9,
  v9:=Tryz.zeroValue9,
  t20:=Tryz.underlying20,
  a20:=Tryz.isAgg20,
  z20:=Tryz.sizeOf20,
  v20:=Tryz.zeroValue20,
  t37:=Tryz.underlying22,
  a37:=Tryz.isAgg22,
  z37:=Tryz.sizeOf22,
  v37:=Tryz.zeroValue22,
  t70:=Tryz.underlying301,
  a70:=Tryz.isAgg301,
  z70:=Tryz.sizeOf301,
  v70:=Tryz.zeroValue301,
  t72:=Tryz.underlying303,
  a72:=Tryz.isAgg303,
  z72:=Tryz.sizeOf303,
  v72:=Tryz.zeroValue303,
  t75:=Tryz.underlying306,
  a75:=Tryz.isAgg306,
  z75:=Tryz.sizeOf306,
  v75:=Tryz.zeroValue306,
  t164:=Tryz.underlying386,
  a164:=Tryz.isAgg386,
  z164:=Tryz.sizeOf386,
  v164:=Tryz.zeroValue386}
def Tryz.wJ:Ren:=
{f:=fun x=>
    match x with
    | 167=>178
    | 168=>179
    | 240=>223
    | 242=>224
    | 276=>249
    | 278=>250
    | n=>n,
  t:=fun x=>
    match x with
    | 37=>22
    | 46=>75
    | 51=>338
    | 70=>301
    | 72=>303
    | 75=>306
    | 80=>310
    | 164=>386
    | n=>n,
  g:=fun x=>
    match x with
    | n=>n}
theorem Tryz.ae3:Lays.n168 Tryz.prog Tryz.wJ:=
{mixed:=Eq.refl true,
  f168:=Eq.trans Tryz.func179 (congrArg some (Eq.refl (Body.n168 Tryz.wJ))),
  f240:=Eq.trans Tryz.func223 (congrArg some (Eq.refl (Body.n240 Tryz.wJ))),
  f242:=Eq.trans Tryz.func224 (congrArg some (Eq.refl (Body.n242 Tryz.wJ))),
  f276:=Eq.trans Tryz.func249 (congrArg some (Eq.refl (Body.n276 Tryz.wJ))),
  f278:=Eq.trans Tryz.func250 (congrArg some (Eq.refl (Body.n278 Tryz.wJ))),
  t0:=Tryz.underlying0,
  a0:=Tryz.isAgg0,
  z0:=Tryz.sizeOf0,
  v0:=Tryz.zeroValue0,
  t3:=Tryz.underlying3,
  a3:=Tryz.isAgg3,
  z3:=Tryz.sizeOf3,
  v3:=Tryz.zeroValue3,
  t4:=Tryz.underlying4,
  a4:=Tryz.isAgg4,
  z4:=Tryz.sizeOf4,
  v4:=Tryz.zeroValue4,
  t5:=Tryz.underlying5,
  a5:=Tryz.isAgg5,
  z5:=Tryz.sizeOf5,
  v5:=Tryz.zeroValue5,
  t9:=Tryz.underlying9,
  a9:=Tryz.isAgg9,
  z9:=Tryz.sizeOf9,
  v9:=Tryz.zeroValue9,
  t20:=Tryz.underlying20,
  a20:=Tryz.isAgg20,
  z20:=Tryz.sizeOf20,
  v20:=Tryz.zeroValue20,
  t21:=Tryz.underlying21,
  a21:=Tryz.isAgg21,
  z21:=Tryz.sizeOf21,
  v21:=Tryz.zeroValue21,
  t37:=Tryz.underlying22,
  a37:=Tryz.isAgg22,
  z37:=Tryz.sizeOf22,
  v37:=Tryz.zeroValue22,
  t46:=Tryz.underlying75,
  a46:=Tryz.isAgg75,
  z46:=Tryz.sizeOf75,
  v46:=Tryz.zeroValue75,
  t51:=Tryz.underlying338,
  a51:=Tryz.isAgg338,
  z51:=Tryz.sizeOf338,
  v51:=Tryz.zeroValue338,
  t70:=Tryz.underlying301,
  a70:=Tryz.isAgg301,
  z70:=Tryz.sizeOf301,
  v70:=Tryz.zeroValue301,
  t72:=Tryz.underlying303,
  a72:=Tryz.isAgg303,
  z72:=Tryz.sizeOf303,
  v72:=Tryz.zeroValue303,
  t75:=Tryz.underlying306,
  a75:=Tryz.isAgg306,
  z75:=Tryz.sizeOf306,
  v75:=Tryz.zeroValue306,
  t164:=Tryz.underlying386,
  a164:=Tryz.isAgg386,
  z164:=Tryz.sizeOf386,
  v164:=Tryz.zeroValue386}
def Tryz.IF:Ren:=
{f:=fun x=>
    match x with
    | 169=>180
    | n=>n,
  t:=fun x=>
    match x with
    | 37=>22
    | 70=>301
    | 72=>303
    | 127=>353
    | n=>n,
  g:=fun x=>
    match x with
    | n=>n}
theorem Tryz.ae4:Lays.n169 Tryz.prog Tryz.IF:=
{mixed:=Eq.refl true,
  f169:=Eq.trans Tryz.func180 (congrArg some (Eq.refl (Body.n169 Tryz.IF))),
  t0:=Tryz.underlying0,
  a0:=Tryz.isAgg0,
  z0:=Tryz.sizeOf0,
  v0:=Tryz.zeroValue0,
  t3:=Tryz.underlying3,
  a3:=Tryz.isAgg3,
  z3:=Tryz.sizeOf3,
  v3:=Tryz.zeroValue3,
  t9:=Tryz.underlying9,
  a9:=Tryz.isAgg9,
  z9:=Tryz.sizeOf9,
  v9:=Tryz.zeroValue9,
  t37:=Tryz.underlying22,
  a37:=Tryz.isAgg22,
  z37:=Tryz.sizeOf22,
  v37:=Tryz.zeroValue22,
  t70:=Tryz.underlying301,
  a70:=Tryz.isAgg301,
  z70:=Tryz.sizeOf301,
  v70:=Tryz.zeroValue301,
  t72:=Tryz.underlying303,
  a72:=Tryz.isAgg303,
  z72:=Tryz.sizeOf303,
  v72:=Tryz.zeroValue303,
  t127:=Tryz.underlying353,
  a127:=Tryz.isAgg353,
  z127:=Tryz.sizeOf353,
  v127:=Tryz.zeroValue353}
theorem Tryz.ae5:Builder.Extra Tryz.prog Tryz.AT where
  sizeBuilder:=ao
  liesBuilder:=ao
  t5:=Tryz.underlying5
  a5:=Tryz.isAgg5
  z5:=Tryz.sizeOf5
  v5:=Tryz.zeroValue5
  infoByte:=ao
  cellsByte:=ao
  sizeByte:=ao
  neB5:=bT
theorem Tryz.ae6:Builder.Extra Tryz.prog Tryz.wJ where
  sizeBuilder:=ao
  liesBuilder:=ao
  t5:=Tryz.underlying5
  a5:=Tryz.isAgg5
  z5:=Tryz.sizeOf5
  v5:=Tryz.zeroValue5
  infoByte:=ao
  cellsByte:=ao
  sizeByte:=ao
  neB5:=bT
theorem Tryz.ae7:Builder.Extra Tryz.prog Tryz.IF where
  sizeBuilder:=ao
  liesBuilder:=ao
  t5:=Tryz.underlying5
  a5:=Tryz.isAgg5
  z5:=Tryz.sizeOf5
  v5:=Tryz.zeroValue5
  infoByte:=ao
  cellsByte:=ao
  sizeByte:=ao
  neB5:=bT
theorem Tryz.ae8 (B b:Nat) (bs:aj) (c:Int) (w:World) (h:Lib.IsBuilderF 303 5 B b bs w) (a:bs.length+1<=140737488355328) (d:B<=w.heap.size):
    Calls Tryz.prog 178 #[.pointer (some ⟨b, 0, none⟩),.int .u8 c] w fun e aE=>e= .returned .nilIface/\(Lib.BuilderAtF 303 5 B b (.pointer (some ⟨b, 0, none⟩)) (bs++ [.int .u8 c]) aE/\Below B w aE/\Lib.OthersKept 5 (some b) w aE):=Any.Builder_WriteByte_k Tryz.ae2 Tryz.ae5 B b bs c w h a d
theorem Tryz.ae9 (B b:Nat) (bs:aj) (r:Int) (c:-2147483648<=r) (d:r<=2147483647) (w:World) (h:Lib.IsBuilderF 303 5 B b bs w) (a:bs.length+4<=140737488355328) (f:B<=w.heap.size):
    Calls Tryz.prog 179 #[.pointer (some ⟨b, 0, none⟩),.int .i32 r] w fun e aE=>e= .returned (.tuple #[.int .i64 (Lib.runeCells r).length,.nilIface])/\(Lib.BuilderAtF 303 5 B b (.pointer (some ⟨b, 0, none⟩)) (bs++Lib.runeCells r) aE/\Below B w aE/\Lib.OthersKept 5 (some b) w aE):=Any.Builder_WriteRune_k Tryz.ae3 Tryz.ae6 B b bs r c d w h a f
theorem Tryz.afa (B b:Nat) (l:List UInt8) (w:World) (h:Lib.IsBuilderF 303 5 B b (Lib.byteCells l) w) (a:B<=w.heap.size):
    Calls Tryz.prog 180 #[.pointer (some ⟨b, 0, none⟩)] w fun e aE=>e= .returned (.string ⟨l.toArray⟩)/\(Lib.IsBuilderF 303 5 B b (Lib.byteCells l) aE/\Below B w aE/\Lib.OthersKept 5 (some b) w aE):=Any.Builder_String_any_k Tryz.ae4 Tryz.ae7 B b l w h a
theorem Tryz.afb (r:Int) (w:World) (a:CaseVar 3 caseA w):
    Calls Tryz.prog 160 #[.int .i32 r] w fun e aE=>e= .returned (.int .i32 (toLowerU r))/\∃q, aE=w.drewN q:=Any.unicode_ToLower_laid Tryz.QI r w a
end Go.Proofs
namespace Seal
open Go Go.Lib Go.Proofs Go.RowKit
structure qO (w:World):Prop where
  t:pW w
  c:CaseVar 3 caseA w
theorem qO.below {w aE:World} (h:qO w) (d:Below w.heap.size w aE):qO aE:=by
  refine⟨h.t.below d, ?_⟩
  have e:∀a v, w.cell? a=some v->aE.cell? a=some v:=fun a v f=>by
    have b:a.block<w.heap.size:=by
      grind[World.cell?]
    rw [d.cell b];exact f
  have⟨R, g, cap, j, k⟩:=h.c
  refine⟨R, g, cap, e _ _ j, fun i l=>?_⟩
  have⟨m, n, a3, a4, a5⟩:=k i l
  simp_all
theorem afc (r:Int) (a:0<=r) (b:r<=2147483647):-2147483648<=toLowerU r/\toLowerU r<=2147483647:=by
  rw [<- toLowerW_caseA]
  grind[Go.Proofs.Lib.toLowerW,toW,wrap32]
def AU (s:ByteArray) (bb:Nat):List UInt8:=if u3 s bb (Utf8.decode s bb).1 then [s.get! bb]else encodeRune (toLowerU (Utf8.decode s bb).1)
def rM (s:ByteArray):Nat->Nat->List UInt8
  | 0, _=>[]
  | f+1, bb=>if bb<s.size then AU s bb++rM s f (bb+(Utf8.decode s bb).2)else []
theorem afd (s:ByteArray) (f bb:Nat) (h:¬bb<s.size):rM s f bb= []:=by
  cases f with
  | zero=>rfl
  | succ f=>simp [rM, h]
def u4 (s:ByteArray):ByteArray:=⟨(rM s s.size 0).toArray⟩
theorem afe (w:World) (q:Nat):Below w.heap.size w (w.drewN q):=⟨rfl, rfl, rfl, Nat.le_refl _, fun _ _=>rfl⟩
theorem QJ (r:Int) (w:World) (a:CaseVar 3 caseA w):Calls Tryz.prog 160 #[.int .i32 r] w fun e aE=>e= .returned (.int .i32 (toLowerU r))/\Below w.heap.size w aE:=
  (Tryz.afb r w a).mono fun e aE ⟨b, q, c⟩=>⟨b, c▸afe w q⟩
set_option maxRecDepth 1000000 in
theorem aff (s:ByteArray) (w:World) (gC:qO w) (ah:s.size<=35184372088832):
    Calls Tryz.prog 122 #[.string s] w fun e aE=>e= .returned (.string (u4 s))/\Below w.heap.size w aE:=by
  go_enter Tryz.func122, Tryz.ntmps122
  go_wp2
  go_loopw [] (fun wr=>∃(a b:Nat) (i:List UInt8), Lib.IsBuilderF 303 5 w.heap.size w.heap.size (Lib.byteCells i) wr/\wr.heap[w.heap.size+1]? = some (.stringIter s a)/\Below w.heap.size w wr/\i++rM s b a=rM s s.size 0/\s.size<=a+b/\i.length<=4*a) (fun wr=>s.size-wr.iterPos (w.heap.size+1))
  case atStart=>
    refine⟨0, s.size,[],(Lib.IsBuilderF.of (Lib.fresh_isBuilder 303 5 w)).alloc _, ?_,((Below.refl _ w).alloc (Nat.le_refl _) _).alloc aW _, rfl, by omega, by simp⟩
    have:=World.iter_heap (w.alloc (.cells #[.pointer none,.slice none 0 0] 303)) s 0
    simp_all
  case round=>
    obtain⟨a, b, i, u5, j, z, p, axc, u1⟩:=hrel
    have lI:=(Array.getElem?_eq_some_iff.1 j).1
    by_cases v:a<s.size
    · have N:∀x,(Instr.next (.pointer (some ⟨w.heap.size+1, 0, none⟩)) true x).run Tryz.prog wr=_:=fun x=>Lib.run_next_any_at wr (w.heap.size+1) s a x j v
      have axd:=QF s a v
      have xH:=decode_le s a
      have B:=u5.iterAt j (a+(Utf8.decode s a).2)
      have m:=Lib.iterAt_heap wr (w.heap.size+1) s a (a+(Utf8.decode s a).2) j
      have l:=Lib.below_iterAt z (k:=w.heap.size+1) U s (a+(Utf8.decode s a).2)
      have axe:w.heap.size<=(wr.iterAt (w.heap.size+1) s (a+(Utf8.decode s a).2)).heap.size:=aT
      obtain⟨f, rfl⟩:∃f, b=f+1:=⟨b-1, by omega⟩
      generalize wr.iterAt (w.heap.size+1) s (a+(Utf8.decode s a).2)=aM at*
      have C:=gC.below l
      have S:=(Array.getElem?_eq_some_iff.1 m).1
      have V:Calls Tryz.prog 177 #[.string s,.int .i64 a,.int .i32 (Utf8.decode s a).1] aM fun e aE=>e= .returned (.bool (u3 s a (Utf8.decode s a).1))/\Below aM.heap.size aM aE:=QE s a (Nat.le_of_lt v) (Utf8.decode s a).1 aM C.t.u
      obtain⟨dD, W⟩:∃dD, u3 s a (Utf8.decode s a).1=dD:=⟨_, rfl⟩
      rw [W]at V
      go_wp2_with fail
      refine V.mono fun e ca ⟨X, n⟩=>?_
      subst X
      have g:=l.trans (n.mono l.size)
      have h:ca.heap[w.heap.size+1]? = some (.stringIter s (a+(Utf8.decode s a).2)):=by rw [n.block _ S];exact m
      have y:=B.below n
      have F:qO ca:=gC.below g
      have H:w.heap.size<=ca.heap.size:=g.size
      clear m l n B V C
      cases dD with
      | true=>
        go_wp2_with (go_at_call 178;refine(Tryz.ae8 w.heap.size w.heap.size _ _ _ y (by rw [Lib.byteCells_length];omega) H).mono ?_)
        rintro e W1 ⟨rfl, h1, I, J⟩
        go_wp2
        go_roundw
        case rel=>
          refine⟨a+(Utf8.decode s a).2, f, i++ [s.get! a], ?_, J.iter h U, g.trans I, ?_, by omega, by grind⟩
          · rw [Lib.byteCells_append]
            have afg:s.get! a=s[a]'v:=by cases s with|mk d=>exact getElem!_pos d a v
            rw [afg]
            exact Or.inr h1
          simp_all[rM,AU]
        case measure=>
          simp only [World.iterPos, J.iter h U, j]
          omega
      | false=>
        have K:=afc (Utf8.decode s a).1 U U
        have QK:=QJ (Utf8.decode s a).1 ca F.c
        go_wp2_with fail
        refine QK.mono fun e sj ⟨X, o⟩=>?_
        subst X
        have L:w.heap.size+1<ca.heap.size:=(Array.getElem?_eq_some_iff.1 h).1
        have q:Below w.heap.size w sj:=g.trans (o.mono g.size)
        have r:sj.heap[w.heap.size+1]? = some (.stringIter s (a+(Utf8.decode s a).2)):=by rw [o.block _ L];exact h
        have afh:=y.below o
        have M:w.heap.size<=sj.heap.size:=q.size
        clear h g o y QK F
        go_wp2_with (go_at_call 179;refine(Tryz.ae9 w.heap.size w.heap.size _ _ K.1 K.2 _ afh (by rw [Lib.byteCells_length];omega) M).mono ?_)
        rintro e W1 ⟨rfl, h1, I, J⟩
        go_wp2
        go_roundw
        case rel=>
          have IG:=Lib.runeCells_le (toLowerU ((Utf8.decode s a).1:Int))
          rw [Lib.runeCells_length]at IG
          refine⟨a+(Utf8.decode s a).2, f, i++Lib.encodeRune (toLowerU (Utf8.decode s a).1), ?_, J.iter r U, q.trans I, ?_, by omega, by grind⟩
          · rw [Lib.byteCells_append, Lib.byteCells_encodeRune];exact Or.inr h1
          simp_all[rM,AU]
        case measure=>
          simp only [World.iterPos, J.iter r U, j]
          omega
    · have N:∀x,(Instr.next (.pointer (some ⟨w.heap.size+1, 0, none⟩)) true x).run Tryz.prog wr=_:=fun x=>Lib.run_next_end_at wr (w.heap.size+1) s a x j v
      go_wp2_with (go_at_call 180;refine(Tryz.afa w.heap.size w.heap.size i _ u5 U).mono ?_)
      rintro e W1 ⟨rfl, _, I, _⟩
      go_wp2
      go_ret
      rw [afd s b a v, append_nil]at p
      subst p
      exact⟨rfl, z.trans I⟩
end Seal
namespace Seal
open Go Go.Lib Go.Shelf Go.Proofs Go.Proofs.YtifflnhooaophaaGreatDoor
variable {W:World}
theorem tabs2_of_reads (a:VarReads Tryz.prog W "unicode/utf8.acceptRanges" Rows.laid_unicode_utf8_acceptRanges) (b:VarReads Tryz.prog W "unicode.properties" Rows.laid_unicode_properties)
    (c:VarReads Tryz.prog W "unicode.CaseRanges" Rows.laid_unicode_CaseRanges) (d:VarReads Tryz.prog W "unicode.Digit" Rows.laid_unicode_Digit) (e:VarReads Tryz.prog W "unicode.Letter" Rows.laid_unicode_Letter) (f:VarReads Tryz.prog W "unicode/utf8.first" Rows.laid_unicode_utf8_first):qO W:=by
  refine⟨aeZ a b d e f, ?_⟩
  exact caseVar_of_reads {Tryz.QI with} ao (by constructor<;>kernel_rfl) c
theorem QL {P:Program} {B:Nat} {σ:Ab.eH} {h:Nat->Option Ab.Obj} {H:Ab.an} {w W:World} (k:@Ab.fV (Ab.lq W) P B σ h H w) {g:Nat} {T:Array CaseRow} (a:CaseVar g T W):CaseVar g T w:=by
  have⟨R, b, cap, c, d⟩:=a
  refine⟨R, b, cap, Ab.tL k c, fun i e=>?_⟩
  have⟨f, j, a3, a4, a5⟩:=d i e
  grind[Ab.tL]
theorem afi {B:Nat} {σ:Ab.eH} {h:Nat->Option Ab.Obj} {H:Ab.an} {w W:World} (k:@Ab.fV (Ab.lq W) Tryz.prog B σ h H w) (a:qO W):qO w:=⟨QG k a.t, QL k a.c⟩
theorem afj (a:qO W) {s:ByteArray} (ah:s.size<=35184372088832) (H:Ab.an):@Ab.tu (Ab.lq W) Tryz.prog 122 [.string s] H (.string (u4 s)):=
  Ab.AS rfl rfl ⟨_, _, Tryz.func122, rfl⟩ fun B σ h w k=>aff s w (afi k a) ah
theorem afk (a:qO W) (r:Int) (H:Ab.an):@Ab.tu (Ab.lq W) Tryz.prog 160 [.int .i32 r] H (.int .i32 (toLowerU r)):=
  Ab.AS rfl rfl ⟨_, _, Tryz.func160, rfl⟩ fun B σ h w k=>QJ r w (QL k a.c)
def Eu (args:aj):Option Value:=match args with
  | [.string s]=>cond (ble s.size 35184372088832) (some (.string (u4 s))) none
  | _=>none
def Ev (args:aj):Option Value:=match args with
  | [.int .i32 r]=>some (.int .i32 (toLowerU r))
  | _=>none
def yv:Code:=Ab.uZ Tryz.prog 144 (Ab.ad6 182 316 320 48)
def AV:Code:=Ab.uZ Tryz.prog 236 Ab.ad5
def yw:Code:=Ab.uZ Tryz.prog 127 (Ab.ad8 182 316 59)
abbrev yx:Ab.ct:=⟨fun f args H=>cond (beq f 122) (Eu args) (cond (beq f 160) (Ev args) (IE.h3 f args H)), fun f=>cond (beq f 144) (some yv) (cond (beq f 236) (some AV) (cond (beq f 127) (some yw) none))⟩
theorem afl {args:aj} {v:Value} (h:Eu args=some v):∃s, args= [.string s]/\s.size<=35184372088832/\v= .string (u4 s):=by
  unfold Eu at h
  split at h
  · rename_i s
    cases a:ble s.size 35184372088832 with
    | false=>simp_all
    | true=>
      simp_all
  · cases h
theorem afm {args:aj} {v:Value} (h:Ev args=some v):∃r, args= [.int .i32 r]/\v= .int .i32 (toLowerU r):=by
  unfold Ev at h
  grind
theorem afn (a:qO W) (f:FuncId) (args:aj) (H:Ab.an) (v:Value) (h:yx.h3 f args H=some v):@Ab.tu (Ab.lq W) Tryz.prog f args H v:=by
  have h:cond (beq f 122) (Eu args) (cond (beq f 160) (Ev args) (IE.h3 f args H))=some v:=h
  cases b:beq f 122 with
  | true=>
    obtain rfl:=eq_of_beq_eq_true b
    obtain⟨s, rfl, ah, rfl⟩:=afl h
    exact afj a ah H
  | false=>
  rw [b]at h
  cases c:beq f 160 with
  | true=>
    obtain rfl:=eq_of_beq_eq_true c
    obtain⟨r, rfl, rfl⟩:=afm h
    exact afk a r H
  | false=>
  rw [c]at h
  exact ae1 a.t f args H v h
end Seal
namespace Seal
open Go Go.Ab
variable {W:World}
abbrev fy:Program:=Go.Proofs.Tryz.prog
abbrev c7:Code:=uZ fy 144 id
abbrev dJ:Code:=uZ fy 206 id
abbrev oN:Code:=cB (cB c7)
abbrev rN:Code:=bU (cB (dH oN))
abbrev yy:Code:=cB (cB oN)
abbrev QM:Code:=dH (cB oN)
abbrev ar:Code:=bU (cB (cB (dH yy)))
abbrev ll:Oper:=jd (dH (cB c7)) 0
abbrev i3:Oper:=jd (dH (cB c7)) 1
theorem afo [gi]:AQ fy 206 (yn fy 206) 154 259 9 40 (.int .i64 192) (rK (bU (cB dJ))):=by
  have a:=QA (P:=fy) (ne:=jd (dH dJ) 1) ao ao
  refine⟨yo ao,⟨rL (dH dJ), rL (bU (cB dJ)), jd (dH dJ) 0, jd (dH dJ) 1, by rfl, Qz ao, by rfl, by rfl, by rfl, by rfl, a.1, a.2⟩, by rfl, ?_,⟨jd (bU (cB dJ)) 0, jd (bU (cB dJ)) 1, jd (bU (cB dJ)) 2, jd (bU (cB dJ)) 3, by rfl,⟨ao, by rfl, by rfl⟩,⟨ao, by rfl, by rfl⟩,⟨ao, by rfl, by rfl⟩, by rfl, by rfl, by rfl⟩, by rfl⟩
  simp_all[yn,Dn]
theorem QN:wH fy 154 259 9 40 (.int .i64 192) 2 44 45 46 (rK (dH ar)).toList:=
  ⟨⟨jd (dH ar) 0, jd (dH ar) 1, jd (dH ar) 2, jd (dH ar) 3, by rfl,⟨ao, by rfl, by rfl⟩,⟨ao, by rfl, by rfl⟩,⟨ao, by rfl, by rfl⟩, by rfl, by rfl, by rfl⟩, by rfl⟩
theorem Ew [gi] {be:hY} {R:Code} {i:Nat} {bm:Array Oper} (h:R= .seq (.region i bm false) .ret) (T:aj) (H:an) (o:eG) (b:(dB fy true R).f be T H=some o):o.cG= .ret/\∃bP, hZ fy be bm.toList bm.toList T H=some bP/\bP.H=o.H:=by
  subst h
  have⟨bP, c, a⟩:=pb b
  rcases a with⟨_, a⟩|⟨d, rfl⟩
  · grind
  · exfalso
    have:∀(l:List Oper) (T:aj) (H:an), hZ fy be bm.toList l T H=some o->o.cG= .normal:=by
      intro l
      induction l with
      | nil=>intro T H h;cases h;rfl
      | cons x l e=>
        intro T H h
        have h:fB fy be x ((gF bm.toList x.guard).f T) T H (hZ fy be bm.toList l)=some o:=h
        unfold fB at h
        grind
    simp_all
theorem QO [gi] {be:hY} {all l:List Oper} {tt eU f cn:Nat} {kv:Value} {s b c d:Nat} (h:wH fy tt eU f cn kv s b c d l) (T:aj) (H:an) (o:eG) (a:hZ fy be all l T H=some o):∃v,(lE fy tt).f (bS T s) H=some (v, H):=by
  obtain⟨⟨bP, cP, fN, eN, rfl,⟨e, g, a3⟩, _⟩, _⟩:=h
  have a:fB fy be bP ((gF all bP.guard).f T) T H (hZ fy be all [cP, fN, eN])=some o:=a
  rw [a3]at a
  have a:fB fy be bP true T H (hZ fy be all [cP, fN, eN])=some o:=a
  unfold fB at a
  rw [Ei e]at a
  grind[Ix]
abbrev j6:Nat:=48
theorem tI:fy.underlying fy.rt.typeAssertionError=some (.pointer (match fy.underlying fy.rt.typeAssertionError with|some (.pointer e)=>e|_=>0)):=ao
abbrev afp:TypeDesc:=(fy.underlying 316).getD .bool
abbrev afq:TypeDesc:=(fy.underlying 320).getD .bool
theorem Ex:fy.underlying 316=some afp:=ao
theorem QP:fy.underlying 320=some afq:=ao
def afr:TypeDesc->Bool| .interface _=>true|_=>false
theorem yz {a:TypeDesc} (h:afr a=false):∀ms, a≠ .interface ms:=by rintro ms rfl;cases h
theorem afs [gi] [ct] (c:cl fy) {be:hY} (b:gB fy be):nn fy be 2 j6 ar (cB (cB yv)) oN:=by
  have g:oN= .seq (.seq (dH (dH oN)) (.cond (Qy (cB (dH oN))) rN .skip)) (.seq QM yy):=ao
  have j:cB (cB yv)= .seq (.seq (dH (dH oN)) (.cond (Qy (cB (dH oN))) (tH ll 1 182 316 j6 rN ar) .skip)) (.seq QM (tH ll 1 182 320 j6 yy ar)):=ao
  have e:ar= .seq (.region (rL (dH ar)) (rK (dH ar)) false) .ret:=ao
  have a:∀T H o,(dB fy true ar).f be T H=some o->o.cG= .ret:=fun T H o h=>(Ew e T H o h).1
  have d:∀T H o,(dB fy true ar).f be T H=some o->∃v,(lE fy 154).f (bS T 2) H=some (v, H):=by
    grind[Ew,QO,QN]
  refine nn.seq b a (ld.seq b a (ld.plain c b ao ao ao ao) (ld.cond ?_ (ld.plain c b rfl rfl rfl rfl))) (nn.seq b a (ld.plain c b ao ao ao ao) ?_)
  · refine ld.guard c b a d Ex (yz ao) ao ao ao ao bT (nU.seq (nU.any (p:=3) (m:=2) (harm:=[0, 1, 2]) c b tI Ex (yz ao) ao ao ao bT ?_ (by kernel_rfl)))
    intro i aB
    rcases List.mem_cons.1 aB with rfl|aB
    · exact⟨jd (dH rN) 0, 12, by rfl, by rfl, by rfl, by decide, by decide,.inr ⟨ao, by decide, by decide⟩⟩
    rcases List.mem_cons.1 aB with rfl|aB
    · exact⟨jd (dH rN) 1, 13, by rfl, by rfl, by rfl, by decide, by decide,.inr ⟨ao, by decide, by decide⟩⟩
    rcases List.mem_cons.1 aB with rfl|aB
    · exact⟨jd (dH rN) 2, 14, by rfl, by rfl, by rfl, by decide, by decide,.inl ⟨ao, rfl, rfl⟩⟩
    cases aB
  · exact nn.guard c b a d QP (yz ao) ao bT (nU.seq (nU.seq (nU.Qq c b tI QP (yz ao) ao ao ao ao ao ao ao bT)))
theorem aft [gi] [ct] (a:cl fy):xV fy 144 yv:=Qv (k:=j6) (i9:=rL (dH ar)) a (yo ao) ao ao ao ao ao ao ao ao ao (le_of_ble_eq_true ao) (le_of_ble_eq_true ao) (le_of_ble_eq_true ao) bT bT ao ao afo QN bT bT bT ao fun be b=>afs a b
abbrev AW:Code:=uZ fy 236 id
abbrev a4:Code:=dH (cB (cB (cB AW)))
abbrev a5:Code:=dH (cB (cB (cB (cB AW))))
abbrev QQ:Oper:=jd a4 5
def afu (bm:Array Oper) (l:List Operand):Bool:=l.all fun x=>match x with| .tmp i=>(oq fy bm.toList).all fun o=>o.1.dst !=some i|_=>false
theorem afv {bm:Array Oper} {l:List Operand} (h:afu bm l=true):∀x∈l, ∃i, x= .tmp i/\∀o∈oq fy bm.toList, o.1.dst≠some i:=by
  intro x b
  have c:=all_eq_true.1 h x b
  grind
theorem afw (c:cl fy) [gi]:@xV _ yx fy 236 AV:=by
  letI:=yx
  have e:AV= .seq (dH AW) (.seq (dH (cB AW)) (.seq (dH (cB (cB AW))) (.seq (.region (rL a4) ((rK a4).toList.take 5).toArray false) (.seq (.region (rL a5) (rK a5) true) (.seq (.region (rL a4) #[{QQ with op:=.call (aeH QQ), dst:=none}] false) .ret))))):=ao
  rw [e]
  exact adC c (yo ao) ao ao ao ao ao (fun o d=>by
    have:∀o∈(rK a4).toList.take 5, o.guard=none:=by
      have h:((rK a4).toList.take 5).all (fun o=>o.guard.isNone)=true:=ao
      simp_all
    simp_all) ao ao ao ao rfl ao rfl (afv ao) (yo ao) ao ao (fun b H=>rfl) rfl
abbrev IH:Code:=uZ fy 127 id
abbrev sC:Code:=uZ fy 184 id
abbrev AX:Code:=cB (cB IH)
abbrev II:Code:=cB AX
abbrev kh:Code:=bU (cB (dH (cB II)))
abbrev afx:Oper:=jd (dH (cB IH)) 0
abbrev axf:Oper:=jd (dH (cB IH)) 1
theorem afy [gi]:AQ fy 184 (yn fy 184) 152 244 7 40 (.int .i64 192) (rK (bU (cB sC))):=by
  have a:=QA (P:=fy) (ne:=jd (dH sC) 1) ao ao
  refine⟨yo ao,⟨rL (dH sC), rL (bU (cB sC)), jd (dH sC) 0, jd (dH sC) 1, by rfl, Qz ao, by rfl, by rfl, by rfl, by rfl, a.1, a.2⟩, by rfl, ?_,⟨jd (bU (cB sC)) 0, jd (bU (cB sC)) 1, jd (bU (cB sC)) 2, jd (bU (cB sC)) 3, by rfl,⟨ao, by rfl, by rfl⟩,⟨ao, by rfl, by rfl⟩,⟨ao, by rfl, by rfl⟩, by rfl, by rfl, by rfl⟩, by rfl⟩
  simp_all[yn,Dn]
theorem QR:wH fy 152 244 7 40 (.int .i64 192) 2 52 53 54 (rK (dH kh)).toList:=
  ⟨⟨jd (dH kh) 0, jd (dH kh) 1, jd (dH kh) 2, jd (dH kh) 3, by rfl,⟨ao, by rfl, by rfl⟩,⟨ao, by rfl, by rfl⟩,⟨ao, by rfl, by rfl⟩, by rfl, by rfl, by rfl⟩, by rfl⟩
theorem afz [gi] [ct] (c:cl fy) {be:hY} (b:gB fy be):nn fy be 2 59 kh (cB (cB yw)) AX:=by
  have e:AX= .seq (dH AX) II:=ao
  have g:cB (cB yw)= .seq (dH AX) (tH afx 1 182 316 59 II kh):=ao
  have i:kh= .seq (.region (rL (dH kh)) (rK (dH kh)) false) .ret:=ao
  have a:∀T H o,(dB fy true kh).f be T H=some o->o.cG= .ret:=fun T H o h=>(Ew i T H o h).1
  have d:∀T H o,(dB fy true kh).f be T H=some o->∃v,(lE fy 152).f (bS T 2) H=some (v, H):=by
    grind[Ew,QO,QR]
  rw [g, e]
  exact nn.seq b a (ld.plain c b ao ao ao ao) (nn.guard c b a d Ex (yz ao) ao bT (nU.seq (nU.Qq c b tI Ex (yz ao) ao ao ao ao ao ao ao bT)))
theorem afA [gi] [ct] (a:cl fy):xV fy 127 yw:=Qv (k:=59) (i9:=rL (dH kh)) a (yo ao) ao ao ao ao ao ao ao ao ao (le_of_ble_eq_true ao) (le_of_ble_eq_true ao) (le_of_ble_eq_true ao) bT bT ao ao afy QR bT bT bT ao fun be b=>afz a b
theorem orcS2_ok (g:qO W):@Au (lq W) yx fy:=by
  letI:=lq W
  letI:=yx
  have a:=OL good
  refine⟨afn g, fun f c h=>?_⟩
  have h:cond (beq f 144) (some yv) (cond (beq f 236) (some AV) (cond (beq f 127) (some yw) none))=some c:=h
  cases b:beq f 144 with
  | true=>
    obtain rfl:=eq_of_beq_eq_true b
    cases h
    exact aft a
  | false=>
  rw [b]at h
  cases d:beq f 236 with
  | true=>
    obtain rfl:=eq_of_beq_eq_true d
    cases h
    exact afw a
  | false=>
  rw [d]at h
  cases e:beq f 127 with
  | true=>
    obtain rfl:=eq_of_beq_eq_true e
    cases h
    exact afA a
  | false=>rw [e]at h;cases h
end Seal
