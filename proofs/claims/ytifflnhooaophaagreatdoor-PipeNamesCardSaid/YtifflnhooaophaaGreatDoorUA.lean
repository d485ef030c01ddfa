/- texts of the pv, gd behind the oq -/
import Derived.Test.YtifflnhooaophaaGreatDoorProg
import Derived.WalkKit
import Derived.KernelRfl
import Derived.Shelf.Unicode.PredsPay
import Derived.Shelf.Unicode.DecodeAny
import Derived.Lib.OthersKept
import Derived.Test.YtifflnhooaophaaGreatDoorRows
import Derived.PinnedBridge
import Derived.Lib.LaidU8T
import Derived.Lib.LaidRTab
import Derived.Lib.LaidTab
import Derived.BigCall
import Derived.Shelf.Strings.BuilderK
import Derived.Shelf.Strings.BuilderRune
import Derived.Shelf.Unicode.CaseLaid
import Derived.Lib.RuneBytes
import Derived.Shelf.Strings.MapGrows
import Derived.Lib.LaidCase
import Derived.Test.YtifflnhooaophaaGreatDoorAbD
set_option linter.unusedVariables false
set_option linter.unusedSimpArgs false
set_option linter.unusedSectionVars false
set_option maxHeartbeats 4000000
namespace Go.Proofs
open Go.RowKit Go.Shelf Go.Lib
set_option maxRecDepth 100000
def Tryz.Bt : Ren :=
{
  f := fun x =>
    match x with
    | 198 => 157
    | 261 => 213
    | 311 => 242
    | 312 => 243
    | n => n,
  t := fun x =>
    match x with
    | 21 => 21
    | 4 => 4
    | 141 => 341
    | 0 => 0
    | 196 => 373
    | 193 => 370
    | 3 => 3
    | 51 => 338
    | 198 => 375
    | 49 => 47
    | 194 => 371
    | 201 => 378
    | 226 => 403
    | 46 => 75
    | 227 => 404
    | n => n,
  g := fun x =>
    match x with
    | 5 => 2
    | n => n }
def Tryz.Bu : Ren :=
{
  f := fun x =>
    match x with
    | 200 => 156
    | 261 => 213
    | 311 => 242
    | 312 => 243
    | n => n,
  t := fun x =>
    match x with
    | 21 => 21
    | 4 => 4
    | 51 => 338
    | 5 => 5
    | 119 => 339
    | 0 => 0
    | 141 => 341
    | 196 => 373
    | 193 => 370
    | 3 => 3
    | 198 => 375
    | 49 => 47
    | 194 => 371
    | 201 => 378
    | 226 => 403
    | 46 => 75
    | 227 => 404
    | n => n,
  g := fun x =>
    match x with
    | 7 => 0
    | 8 => 1
    | n => n }
def Tryz.Gt : Ren :=
{
  f := fun x =>
    match x with
    | 197 => 222
    | 260 => 248
    | n => n,
  t := fun x =>
    match x with
    | 9 => 9
    | 21 => 21
    | 3 => 3
    | 4 => 4
    | 5 => 5
    | 105 => 350
    | 119 => 339
    | 0 => 0
    | 46 => 75
    | 139 => 417
    | 138 => 416
    | n => n,
  g := fun x =>
    match x with
    | 3 => 4
    | 4 => 5
    | n => n }
theorem Tryz.PH : Lays.n200 Tryz.prog Tryz.Bu :=
{ mixed := Eq.refl true, f200 := Eq.trans Tryz.func156 (congrArg some (Eq.refl (Body.n200 Tryz.Bu))),
  f261 := Eq.trans Tryz.func213 (congrArg some (Eq.refl (Body.n261 Tryz.Bu))),
  f311 := Eq.trans Tryz.func242 (congrArg some (Eq.refl (Body.n311 Tryz.Bu))),
  f312 := Eq.trans Tryz.func243 (congrArg some (Eq.refl (Body.n312 Tryz.Bu))), t0 := Tryz.underlying0,
  a0 := Tryz.isAgg0, z0 := Tryz.sizeOf0, v0 := Tryz.zeroValue0, t3 := Tryz.underlying3, a3 := Tryz.isAgg3,
  z3 := Tryz.sizeOf3, v3 := Tryz.zeroValue3, t4 := Tryz.underlying4, a4 := Tryz.isAgg4, z4 := Tryz.sizeOf4,
  v4 := Tryz.zeroValue4, t5 := Tryz.underlying5, a5 := Tryz.isAgg5, z5 := Tryz.sizeOf5, v5 := Tryz.zeroValue5,
  t21 := Tryz.underlying21, a21 := Tryz.isAgg21, z21 := Tryz.sizeOf21, v21 := Tryz.zeroValue21,
  t46 := Tryz.underlying75, a46 := Tryz.isAgg75, z46 := Tryz.sizeOf75, v46 := Tryz.zeroValue75,
  t49 := Tryz.underlying47, a49 := Tryz.isAgg47, z49 := Tryz.sizeOf47, v49 := Tryz.zeroValue47,
  t51 := Tryz.underlying338, a51 := Tryz.isAgg338, z51 := Tryz.sizeOf338, v51 := Tryz.zeroValue338,
  t119 := Tryz.underlying339, a119 := Tryz.isAgg339, z119 := Tryz.sizeOf339, t141 := Tryz.underlying341,
  a141 := Tryz.isAgg341, z141 := Tryz.sizeOf341, v141 := Tryz.zeroValue341, t193 := Tryz.underlying370,
  a193 := Tryz.isAgg370, z193 := Tryz.sizeOf370, v193 := Tryz.zeroValue370, t194 := Tryz.underlying371,
  a194 := Tryz.isAgg371, z194 := Tryz.sizeOf371, v194 := Tryz.zeroValue371, t196 := Tryz.underlying373,
  a196 := Tryz.isAgg373, z196 := Tryz.sizeOf373, v196 := Tryz.zeroValue373, t198 := Tryz.underlying375,
  a198 := Tryz.isAgg375, z198 := Tryz.sizeOf375, v198 := Tryz.zeroValue375, t201 := Tryz.underlying378,
  a201 := Tryz.isAgg378, z201 := Tryz.sizeOf378, v201 := Tryz.zeroValue378, t226 := Tryz.underlying403,
  a226 := Tryz.isAgg403, z226 := Tryz.sizeOf403, v226 := Tryz.zeroValue403, t227 := Tryz.underlying404,
  a227 := Tryz.isAgg404, z227 := Tryz.sizeOf404, v227 := Tryz.zeroValue404,
  g7 := (by kernel_rfl), g8 := (by kernel_rfl) }
theorem Tryz.PI : Lays.n198 Tryz.prog Tryz.Bt :=
{ mixed := Eq.refl true, f198 := Eq.trans Tryz.func157 (congrArg some (Eq.refl (Body.n198 Tryz.Bt))),
  f261 := Eq.trans Tryz.func213 (congrArg some (Eq.refl (Body.n261 Tryz.Bt))),
  f311 := Eq.trans Tryz.func242 (congrArg some (Eq.refl (Body.n311 Tryz.Bt))),
  f312 := Eq.trans Tryz.func243 (congrArg some (Eq.refl (Body.n312 Tryz.Bt))), t0 := Tryz.underlying0,
  a0 := Tryz.isAgg0, z0 := Tryz.sizeOf0, v0 := Tryz.zeroValue0, t3 := Tryz.underlying3, a3 := Tryz.isAgg3,
  z3 := Tryz.sizeOf3, v3 := Tryz.zeroValue3, t4 := Tryz.underlying4, a4 := Tryz.isAgg4, z4 := Tryz.sizeOf4,
  v4 := Tryz.zeroValue4, t21 := Tryz.underlying21, a21 := Tryz.isAgg21, z21 := Tryz.sizeOf21, v21 := Tryz.zeroValue21,
  t46 := Tryz.underlying75, a46 := Tryz.isAgg75, z46 := Tryz.sizeOf75, v46 := Tryz.zeroValue75,
  t49 := Tryz.underlying47, a49 := Tryz.isAgg47, z49 := Tryz.sizeOf47, v49 := Tryz.zeroValue47,
  t51 := Tryz.underlying338, a51 := Tryz.isAgg338, z51 := Tryz.sizeOf338, v51 := Tryz.zeroValue338,
  t141 := Tryz.underlying341, a141 := Tryz.isAgg341, z141 := Tryz.sizeOf341, v141 := Tryz.zeroValue341,
  t193 := Tryz.underlying370, a193 := Tryz.isAgg370, z193 := Tryz.sizeOf370, v193 := Tryz.zeroValue370,
  t194 := Tryz.underlying371, a194 := Tryz.isAgg371, z194 := Tryz.sizeOf371, v194 := Tryz.zeroValue371,
  t196 := Tryz.underlying373, a196 := Tryz.isAgg373, z196 := Tryz.sizeOf373, v196 := Tryz.zeroValue373,
  t198 := Tryz.underlying375, a198 := Tryz.isAgg375, z198 := Tryz.sizeOf375, v198 := Tryz.zeroValue375,
  t201 := Tryz.underlying378, a201 := Tryz.isAgg378, z201 := Tryz.sizeOf378, v201 := Tryz.zeroValue378,
  t226 := Tryz.underlying403, a226 := Tryz.isAgg403, z226 := Tryz.sizeOf403, v226 := Tryz.zeroValue403,
  t227 := Tryz.underlying404, a227 := Tryz.isAgg404, z227 := Tryz.sizeOf404, v227 := Tryz.zeroValue404,
  g5 := (by kernel_rfl) }
theorem Tryz.X1 : Lays.n197 Tryz.prog Tryz.Gt :=
{ mixed := Eq.refl true, f197 := Eq.trans Tryz.func222 (congrArg some (Eq.refl (Body.n197 Tryz.Gt))),
  f260 := Eq.trans Tryz.func248 (congrArg some (Eq.refl (Body.n260 Tryz.Gt))), t0 := Tryz.underlying0,
  a0 := Tryz.isAgg0, z0 := Tryz.sizeOf0, v0 := Tryz.zeroValue0, t3 := Tryz.underlying3, a3 := Tryz.isAgg3,
  z3 := Tryz.sizeOf3, v3 := Tryz.zeroValue3, t4 := Tryz.underlying4, a4 := Tryz.isAgg4, z4 := Tryz.sizeOf4,
  v4 := Tryz.zeroValue4, t5 := Tryz.underlying5, a5 := Tryz.isAgg5, z5 := Tryz.sizeOf5, v5 := Tryz.zeroValue5,
  t9 := Tryz.underlying9, a9 := Tryz.isAgg9, z9 := Tryz.sizeOf9, v9 := Tryz.zeroValue9, t21 := Tryz.underlying21,
  a21 := Tryz.isAgg21, z21 := Tryz.sizeOf21, v21 := Tryz.zeroValue21, t46 := Tryz.underlying75, a46 := Tryz.isAgg75,
  z46 := Tryz.sizeOf75, v46 := Tryz.zeroValue75, t105 := Tryz.underlying350, a105 := Tryz.isAgg350,
  z105 := Tryz.sizeOf350, v105 := Tryz.zeroValue350, t119 := Tryz.underlying339, a119 := Tryz.isAgg339,
  z119 := Tryz.sizeOf339, t138 := Tryz.underlying416, a138 := Tryz.isAgg416, z138 := Tryz.sizeOf416,
  v138 := Tryz.zeroValue416, t139 := Tryz.underlying417, a139 := Tryz.isAgg417, z139 := Tryz.sizeOf417,
  v139 := Tryz.zeroValue417, g3 := (by kernel_rfl),
  g4 := (by kernel_rfl) }
end Go.Proofs
set_option maxRecDepth 100000
namespace Go.Ab
open Go Go.Lib
variable {P: Program} {B: Nat} {σ: cQ} {h: Nat -> Option Obj} {H: au} {w W: World}
theorem x5 (k : @gY (nJ W) P B σ h H w) {a : Addr} {v : Value} (aA : W.cell? a = some v) : w.cell? a = some v := by
  letI := nJ W
  have ea : a.block < W.heap.size := by
    grind[World.cell?]
  have e : w.heap[a.block]? = W.heap[a.block]? := k.base _ (Nat.lt_of_lt_of_le ea k.eZ)
  simp_all[World.cell?]
theorem X2 (k : @gY (nJ W) P B σ h H w) {n : String} {v : Array Value} (aA : W.var? P n = some v) : w.var? P n = some v := by
  letI := nJ W
  unfold World.var? at *
  cases hg : P.globalNamed n with
  | none => simp_all
  | some g =>
    rw [hg] at aA
    have ea : g < W.heap.size := by
      grind
    have e : w.heap[g]? = W.heap[g]? := k.base _ (Nat.lt_of_lt_of_le ea k.eZ)
    simp_all
theorem anf (k : @gY (nJ W) P B σ h H w) {n : String} {js : IntKind} {jx : List Int} (bk : TabIs P W n js jx) : TabIs P w n js jx := X2 k bk
theorem X3 (k : @gY (nJ W) P B σ h H w) {g : Nat} {T : RTab} (hV : RVar g T W) : RVar g T w := by
  obtain ⟨PJ, PK, ad, Bv, PL, PM, PN, PO, PQ, PR, PS, af, ax, aO, bl, bL, cn, dA, fo⟩ := hV
  refine ⟨PJ, PK, x5 k ad, Bv, PL, PM, PN, PO, PQ, PR, PS, x5 k af, x5 k ax, x5 k aO, bl, bL, fun i aq => ?_, fun i aq => ?_, fo⟩
  · obtain ⟨x, y, z⟩ := cn i aq
    grind[x5]
  · obtain ⟨x, y, z⟩ := dA i aq
    grind[x5]
theorem Gu {f : FuncId} {args : List Value} {v : Value} (br : args.all wB = true) (hv : Jr v = true) (hf : ∃ fn c, P.funcs[f]? = some fn /\ fn.body = some c)
    (aA : ∀ (B : Nat) (σ : cQ) (h : Nat -> Option Obj) (w : World), @gY (nJ W) P B σ h H w -> Calls P f args.toArray w fun e aL => e = .returned v /\ RowKit.Below w.heap.size w aL) : @vv (nJ W) P f args H v := by
  intro B σ h w fL k Pr
  have e : fL = args.toArray := Array.ext' (by rw [Pr.wB br])
  subst e
  refine ⟨hf, CallsIn.mono (callsIn_wide.2 (aA B σ h w k)) ?_⟩
  simp_all[akx]
end Go.Ab
namespace Seal
open Go Go.Ab Go.Lib Go.Proofs
variable {W: World}
theorem ang (bk : TabIs Tryz.prog W "unicode.properties" .u8 propertiesTab) (hV : RVar 1 letterT W) {r : Int} (ad : -2147483648 <= r) (af : r <= 2147483647) (H : au) : @vv (nJ W) Tryz.prog 156 [.int .i32 r] H (.bool (isLetterU r)) :=
  Gu rfl rfl ⟨_, _, Tryz.func156, rfl⟩ fun B σ h w k => Any.unicode_IsLetter_all Tryz.PH (by rfl) r w ad af (anf k bk) (X3 k hV)
theorem anh (hV : RVar 2 digitT W) {r : Int} (ad : -2147483648 <= r) (af : r <= 2147483647) (H : au) : @vv (nJ W) Tryz.prog 157 [.int .i32 r] H (.bool (isDigitU r)) :=
  Gu rfl rfl ⟨_, _, Tryz.func157, rfl⟩ fun B σ h w k => Any.unicode_IsDigit_all Tryz.PI r w ad af (X3 k hV)
end Seal
namespace Seal
open Go Go.Lib Go.Proofs Go.RowKit
set_option maxRecDepth 1000000 in
theorem ani (s : ByteArray) (a c : Int) (aA : c ≠ 65533) (w : World) : Calls Tryz.prog 177 #[.string s, .int .i64 a, .int .i32 c] w fun e aL => e = .returned (.bool false) /\ aL = w := by
  have h : (c != 65533) = true := by simp [aA]
  go_enter Tryz.func177, Tryz.ntmps177
  go_wp2
  go_ret
  simp_all
set_option maxRecDepth 1000000 in
theorem anj (s : ByteArray) (a : Nat) (br : a <= s.size) (w : World) (bk : Utf8Tabs 4 5 w) : Calls Tryz.prog 177 #[.string s, .int .i64 a, .int .i32 65533] w fun e aL => e = .returned (.bool (decide ((decodeGo (s.extract a s.size)).2 = 1))) /\ Below w.heap.size w aL := by
  have PT : Calls Tryz.prog 222 #[.string (s.extract a s.size)] w _ := Any.utf8_DecodeRuneInString Tryz.X1 (s.extract a s.size) w bk
  have ad : (0 : Int) <= a := by omega
  have af : (a : Int) <= s.size := by omega
  go_enter Tryz.func177, Tryz.ntmps177
  go_wp2_with fail
  refine PT.mono fun e dF ⟨he, an⟩ => ?_
  subst he
  go_wp2_with fail
  go_ret
  refine ⟨?_, an⟩
  show Ending.returned (.bool (((decodeGo (s.extract a s.size)).2 : Int) == 1)) = _
  have e : (((decodeGo (s.extract a s.size)).2 : Int) == 1) = decide ((decodeGo (s.extract a s.size)).2 = 1) := by
    grind
  rw [e]
set_option maxRecDepth 1000000 in
theorem X4 (s : ByteArray) (a : Nat) (br : a <= s.size) (c : Int) (w : World) (bk : Utf8Tabs 4 5 w) : Calls Tryz.prog 177 #[.string s, .int .i64 a, .int .i32 c] w fun e aL => e = .returned (.bool (decide (c = 65533 /\ (decodeGo (s.extract a s.size)).2 = 1))) /\ Below w.heap.size w aL := by
  by_cases aA : c = 65533
  · subst aA
    refine (anj s a br w bk).mono fun e aL ⟨he, an⟩ => ⟨?_, an⟩
    grind
  · refine (ani s a c aA w).mono fun e aL ⟨he, aM⟩ => ⟨?_, aM ▸ Below.refl _ _⟩
    simp_all
def wR (c : Int) (first : Bool) : Bool := isLetterU c || !first && (isDigitU c || c == 45 || c == 95 || c == 46)
set_option maxRecDepth 1000000 in
theorem ank (c : Int) (first : Bool) (ad : -2147483648 <= c) (af : c <= 2147483647) (w : World) (bk : TabIs Tryz.prog w "unicode.properties" .u8 propertiesTab) (hL : RVar 1 letterT w) (k9 : ∀ aL, Below w.heap.size w aL -> RVar 2 digitT aL) :
    Calls Tryz.prog 181 #[.int .i32 c, .bool first] w fun e aL => e = .returned (.bool (wR c first)) /\ Below w.heap.size w aL := by
  have KA : Calls Tryz.prog 156 #[.int .i32 c] w _ := Any.unicode_IsLetter_all Tryz.PH (by rfl) c w ad af bk hL
  go_enter Tryz.func181, Tryz.ntmps181
  go_wp2_with fail
  refine KA.mono fun e dF ⟨he, an⟩ => ?_
  subst he
  have PT : Calls Tryz.prog 157 #[.int .i32 c] dF _ := Any.unicode_IsDigit_all Tryz.PI c dF ad af (k9 dF an)
  cases aD : isLetterU c with
  | true =>
    go_wp2_with fail
    go_ret
    simp_all[wR]
  | false =>
    cases first with
    | true =>
      go_wp2_with fail
      go_ret
      simp_all[wR]
    | false =>
      go_wp2_with fail
      refine PT.mono fun e e3 ⟨he, pB⟩ => ?_
      subst he
      have x6 : Below w.heap.size w e3 := an.trans (pB.mono an.size)
      cases aJ : isDigitU c with
      | true =>
        go_wp2_with fail
        go_ret
        simp_all[wR]
      | false =>
        by_cases bn : c = 45
        · subst bn
          go_wp2_with fail
          go_ret
          simp_all[wR]
        by_cases bF : c = 95
        · subst bF
          go_wp2_with fail
          go_ret
          simp_all[wR]
        have fj : (c == 45) = false := by simp_all
        have fl : (c == 95) = false := by simp_all
        go_wp2_with fail
        go_ret
        simp_all[wR]
end Seal
namespace Seal
open Go Go.Lib Go.Proofs Go.RowKit
structure ti (w : World) : Prop where
  aU : Utf8Tabs 4 5 w
  p : TabIs Tryz.prog w "unicode.properties" .u8 propertiesTab
  l : RVar 1 letterT w
  d : RVar 2 digitT w
theorem ti.kN {w aL : World} (h : ti w) (aA : ∀ a v, w.cell? a = some v -> aL.cell? a = some v) (hv : ∀ n v, w.var? Tryz.prog n = some v -> aL.var? Tryz.prog n = some v) : ti aL := by
  have fG : ∀ {g : Nat} {T : RTab}, RVar g T w -> RVar g T aL := by
    rintro g T ⟨PJ, PK, ad, Bv, PL, PM, PN, PO, PQ, PR, PS, af, ax, aO, bl, bL, cn, dA, fo⟩
    refine ⟨PJ, PK, aA _ _ ad, Bv, PL, PM, PN, PO, PQ, PR, PS, aA _ _ af, aA _ _ ax, aA _ _ aO, bl, bL, fun i aq => ?_, fun i aq => ?_, fo⟩
    · obtain ⟨x, y, z⟩ := cn i aq
      simp_all
    · obtain ⟨x, y, z⟩ := dA i aq
      simp_all
  exact ⟨⟨fun c ad => aA _ _ (h.aU.1 c ad), fun i aq => ⟨aA _ _ (h.aU.2 i aq).1, aA _ _ (h.aU.2 i aq).2⟩⟩, hv _ _ h.p, fG h.l, fG h.d⟩
theorem ti.below {w aL : World} (h : ti w) (an : Below w.heap.size w aL) : ti aL := by
  refine h.kN (fun a v br => ?_) (fun n v aX => ?_)
  · have ea : a.block < w.heap.size := by
      grind[World.cell?]
    rw [an.cell ea]; exact br
  · unfold World.var? at *
    cases hg : Tryz.prog.globalNamed n with
    | none => simp_all
    | some g =>
      rw [hg] at aX
      have ea : g < w.heap.size := by
        grind
      show (match aL.heap[g]? with | some (.cells ar _ _) => some ar | _ => none) = some v
      rw [an.block g ea]; exact aX
def zs (n : Int) : Int := if n < 1 \/ n > 24 then 41 else 0
def zt (s : ByteArray) (bh : Nat) (c : Int) : Bool := decide (c = 65533 /\ (decodeGo (s.extract bh s.size)).2 = 1)
def DY (s : ByteArray) (bh : Nat) (n : Int) : Bool := zt s bh (Utf8.decode s bh).1 || !wR (Utf8.decode s bh).1 (n == 0)
def pb (s : ByteArray) : Nat -> Nat -> Int -> Int
  | 0, bh, n => zs n
  | b + 1, bh, n => if bh < s.size then (if DY s bh n then 41 else pb s b (bh + (Utf8.decode s bh).2) (n + 1)) else zs n
theorem anl (s : ByteArray) (b bh : Nat) (n : Int) (h : ¬ bh < s.size) : pb s b bh n = zs n := by
  cases b with
  | zero => rfl
  | succ b => simp [pb, h]
theorem X5 (s : ByteArray) (bh : Nat) (h : bh < s.size) : 1 <= (Utf8.decode s bh).2 := by
  by_cases br : (s[bh]'h).toNat < 128
  · simp_all[decode_ascii]
  simp_all[decode_high]
theorem anm {w wr : World} {s : ByteArray} {p : Nat} (h : Below w.heap.size w wr) : Below w.heap.size w (wr.iterAt w.heap.size s p) := by
  refine h.trans ⟨rfl, rfl, rfl, ?_, fun k ag => ?_⟩
  · simp [World.iterAt]
  grind[World.iterAt]
theorem ann {k : Nat} {wr : World} {s : ByteArray} {p q : Nat} (h : wr.heap[k]? = some (.stringIter s q)) : (wr.iterAt k s p).heap[k]? = some (.stringIter s p) := by
  grind[World.iterAt]
set_option maxRecDepth 1000000 in
theorem ano (s : ByteArray) (aw : s.size < 4611686018427387904) (w : World) (bk : ti w) : Calls Tryz.prog 123 #[.string s] w fun e aL => e = .returned (.int .i64 (pb s s.size 0 0)) /\ Below w.heap.size w aL := by
  go_enter Tryz.func123, Tryz.ntmps123
  go_wp2_with fail
  go_loopw [3] (fun n aL => ∃ (bh b : Nat) (k : Int), aL.heap[w.heap.size]? = some (.stringIter s bh) /\ Below w.heap.size w aL /\ n = .int .i64 k /\ pb s b bh k = pb s s.size 0 0 /\ s.size <= bh + b /\ 0 <= k /\ k <= bh) (fun _ aL => s.size - aL.iterPos w.heap.size)
  case atStart => exact ⟨0, s.size, 0, World.iter_heap w s 0, Below.alloc (Below.refl _ _) (Nat.le_refl _) _, rfl, rfl, by omega, by omega, by omega⟩
  case round =>
    obtain ⟨bh, b, k, n7, oI, rfl, aA, an, gO, sw⟩ := hrel
    by_cases bM : bh < s.size
    · have wo : ∀ c2, (Instr.next (.pointer (some ⟨w.heap.size, 0, none⟩)) true c2).run Tryz.prog wr = _ := fun c2 => run_next_any_at wr w.heap.size s bh c2 n7 bM
      have anp := X5 s bh bM
      have KB : Below w.heap.size w (wr.iterAt w.heap.size s (bh + (Utf8.decode s bh).2)) := anm oI
      have PU : (wr.iterAt w.heap.size s (bh + (Utf8.decode s bh).2)).heap[w.heap.size]? = some (.stringIter s (bh + (Utf8.decode s bh).2)) := ann n7
      have kP := decode_le s bh
      generalize wr.iterAt w.heap.size s (bh + (Utf8.decode s bh).2) = dF at *
      have DZ : Calls Tryz.prog 177 #[.string s, .int .i64 bh, .int .i32 (Utf8.decode s bh).1] dF fun e aL => e = .returned (.bool (zt s bh (Utf8.decode s bh).1)) /\ Below dF.heap.size dF aL := X4 s bh (Nat.le_of_lt bM) (Utf8.decode s bh).1 dF (bk.below KB).aU
      have ea : w.heap.size < dF.heap.size := (Array.getElem?_eq_some_iff.1 PU).1
      obtain ⟨fc, Gv⟩ : ∃ fc, zt s bh (Utf8.decode s bh).1 = fc := ⟨_, rfl⟩
      rw [Gv] at DZ
      go_wp2_with fail
      refine DZ.mono fun e e3 ⟨he, pB⟩ => ?_
      subst he
      have Gw : Below w.heap.size w e3 := KB.trans (pB.mono KB.size)
      have PV : e3.heap[w.heap.size]? = some (.stringIter s (bh + (Utf8.decode s bh).2)) := by rw [pB.block _ ea]; exact PU
      clear PU KB pB oI
      cases fc with
      | true =>
        go_wp2_with fail
        go_ret
        refine ⟨?_, Gw⟩
        rw [<- aA]
        cases b with
        | zero => omega
        | succ b => simp_all[pb,DY]
      | false =>
        have Gl := bk.below Gw
        have X6 := ank (Utf8.decode s bh).1 (k == 0) (by omega) (by omega) e3 Gl.p Gl.l (fun aL a7 => (Gl.below a7).d)
        obtain ⟨cz, anq⟩ : ∃ cz, wR (Utf8.decode s bh).1 (k == 0) = cz := ⟨_, rfl⟩
        rw [anq] at X6
        go_wp2_with fail
        refine X6.mono fun e kR ⟨he, x6⟩ => ?_
        subst he
        have anr : w.heap.size < e3.heap.size := (Array.getElem?_eq_some_iff.1 PV).1
        have X7 : Below w.heap.size w kR := Gw.trans (x6.mono Gw.size)
        have ans : kR.heap[w.heap.size]? = some (.stringIter s (bh + (Utf8.decode s bh).2)) := by rw [x6.block _ anr]; exact PV
        clear PV Gw x6
        cases cz with
        | false =>
          go_wp2_with fail
          go_ret
          refine ⟨?_, X7⟩
          rw [<- aA]
          cases b with
          | zero => omega
          | succ b => simp_all[pb,DY]
        | true =>
          have k0 : k + 1 < 9223372036854775808 := by omega
          go_wp2_with fail
          go_roundw
          case rel =>
            cases b with
            | zero => omega
            | succ b =>
              refine ⟨bh + (Utf8.decode s bh).2, b, k + 1, ans, X7, ?_, ?_, by omega, by omega, by omega⟩
              · rfl
              simp_all[pb,DY]
          case measure =>
            grind[World.iterPos]
    · have wo : ∀ c2, (Instr.next (.pointer (some ⟨w.heap.size, 0, none⟩)) true c2).run Tryz.prog wr = _ := fun c2 => run_next_end_at wr w.heap.size s bh c2 n7 bM
      rw [anl s b bh k bM] at aA
      by_cases ad : k < 1
      · go_wp2_with fail
        go_ret
        simp_all[zs]
      by_cases af : k > 24
      · go_wp2_with fail
        go_ret
        simp_all[zs]
      go_wp2_with fail
      go_ret
      exact ⟨by rw [<- aA]; simp [zs, ad, af], oI⟩
end Seal
namespace Seal
open Go Go.Ab Go.Lib Go.Proofs
variable {W: World}
theorem X8 {B : Nat} {σ : Ab.cQ} {h : Nat -> Option Ab.Obj} {H : Ab.au} {w : World} (k : @gY (nJ W) Tryz.prog B σ h H w) (bk : ti W) : ti w := bk.kN (fun a v br => x5 k br) (fun n v aX => X2 k aX)
theorem ant (bk : ti W) {s : ByteArray} (aw : s.size < 4611686018427387904) (H : Ab.au) : @vv (nJ W) Tryz.prog 123 [.string s] H (.int .i64 (pb s s.size 0 0)) :=
  Gu rfl rfl ⟨_, _, Tryz.func123, rfl⟩ fun B σ h w k => ano s aw w (X8 k bk)
end Seal
namespace Seal
open Go Go.Lib Go.Shelf Go.Proofs Go.Proofs.YtifflnhooaophaaGreatDoor
variable {W: World}
theorem anu : RExtra Tryz.prog Tryz.Bu := ⟨by rfl, by rfl, by rfl, by rfl, by rfl, by rfl, by rfl, by rfl⟩
theorem anv : RExtra Tryz.prog Tryz.Bt := ⟨by rfl, by rfl, by rfl, by rfl, by rfl, by rfl, by rfl, by rfl⟩
theorem anw : U8Extra Tryz.prog Tryz.Gt := by constructor <;> kernel_rfl
theorem anx : (Rows.laid_unicode_utf8_acceptRanges : DataW Unit) = acceptData := by rfl
theorem anz : (Rows.laid_unicode_properties : DataW Unit) = tabData .u8 propertiesTab := by rfl
theorem anA {P : Program} {name : String} {k : IntKind} {jx : List Int} {g : Nat} {t e : TypeId} {n : Nat}
    (hg : P.globalNamed name = some g) (anB : (P.globals[g]?).map (·.type) = some t) (ht : P.underlying t = some (.array n e)) (he : P.underlying e = some (.int k)) (anC : P.cellsOf e = 1) (KC : P.cellsOf t = n)
    (h : VarReads P W name (tabData k jx)) : TabIs P W name k jx := by
  obtain ⟨A8, mC, ar, mi, p, wM, Pq, anD, aJ⟩ := h
  obtain rfl := Option.some.inj (hg.symm.trans wM)
  obtain rfl := Option.some.inj (anB.symm.trans Pq)
  unfold TabIs
  rw [anD, <- cells_of_tab ht he anC KC aJ]
theorem anE (ad : VarReads Tryz.prog W "unicode/utf8.acceptRanges" Rows.laid_unicode_utf8_acceptRanges) (af : VarReads Tryz.prog W "unicode.properties" Rows.laid_unicode_properties)
    (ax : VarReads Tryz.prog W "unicode.Digit" Rows.laid_unicode_Digit) (aO : VarReads Tryz.prog W "unicode.Letter" Rows.laid_unicode_Letter) (bl : VarReads Tryz.prog W "unicode/utf8.first" Rows.laid_unicode_utf8_first) : ti W := by
  refine ⟨?_, ?_, ?_, ?_⟩
  · rw [anx] at ad
    have bl : VarReads Tryz.prog W "unicode/utf8.first" Pinned.utf8First := bl
    rw [Pinned.utf8First_eq] at bl
    exact utf8Tabs_of_readsT (ρ := Tryz.Gt) { Tryz.X1 with } anw bl ad
  · rw [anz] at af
    exact anA (g := 0) (t := 339) (e := 5) (n := 256) (by rfl) (by rfl) (by rfl) (by rfl) (by rfl) (by rfl) af
  · have aO : VarReads Tryz.prog W "unicode.Letter" Pinned.letter := aO
    rw [Pinned.letter_eq] at aO
    exact rvar_of_reads (ρ := Tryz.Bu) { Tryz.PH with } anu (by rfl) (by rfl) aO
  · have ax : VarReads Tryz.prog W "unicode.Digit" Pinned.digit := ax
    rw [Pinned.digit_eq] at ax
    exact rvar_of_reads (ρ := Tryz.Bt) { Tryz.PI with } anv (by rfl) (by rfl) ax
end Seal
namespace Seal
open Go Go.Lib Go.Shelf Go.Proofs
variable {W: World}
def KD (args : List Value) : Option Value := match args with
  | [.string s] => cond (Nat.blt s.size 4611686018427387904) (some (.int .i64 (pb s s.size 0 0))) none
  | _ => none
def D0 (F : Int -> Bool) (args : List Value) : Option Value := match args with
  | [.int .i32 r] => cond (decide (-2147483648 <= r) && decide (r <= 2147483647)) (some (.bool (F r))) none
  | _ => none
@[reducible] def PW : Ab.ep := ⟨fun f args _ => cond (Nat.beq f 123) (KD args) (cond (Nat.beq f 156) (D0 isLetterU args) (cond (Nat.beq f 157) (D0 isDigitU args) none)), fun _ => none⟩
theorem anF {args : List Value} {v : Value} (h : KD args = some v) : ∃ s, args = [.string s] /\ s.size < 4611686018427387904 /\ v = .int .i64 (pb s s.size 0 0) := by
  unfold KD at h
  split at h
  · rename_i s
    cases an : Nat.blt s.size 4611686018427387904 with
    | false => simp_all
    | true =>
      simp_all
  · cases h
theorem X9 {F : Int -> Bool} {args : List Value} {v : Value} (h : D0 F args = some v) : ∃ r, args = [.int .i32 r] /\ -2147483648 <= r /\ r <= 2147483647 /\ v = .bool (F r) := by
  unfold D0 at h
  grind
theorem anG (bk : ti W) (f : FuncId) (args : List Value) (H : Ab.au) (v : Value) (h : PW.lf f args H = some v) : @Ab.vv (Ab.nJ W) Tryz.prog f args H v := by
  have h : cond (Nat.beq f 123) (KD args) (cond (Nat.beq f 156) (D0 isLetterU args) (cond (Nat.beq f 157) (D0 isDigitU args) none)) = some v := h
  cases ad : Nat.beq f 123 with
  | true =>
    rw [ad] at h
    obtain rfl := Nat.eq_of_beq_eq_true ad
    obtain ⟨s, rfl, aw, rfl⟩ := anF h
    exact ant bk aw H
  | false =>
  rw [ad] at h
  cases af : Nat.beq f 156 with
  | true =>
    rw [af] at h
    obtain rfl := Nat.eq_of_beq_eq_true af
    obtain ⟨r, rfl, a, b, rfl⟩ := X9 h
    exact ang bk.p bk.l a b H
  | false =>
  rw [af] at h
  cases ax : Nat.beq f 157 with
  | true =>
    rw [ax] at h
    obtain rfl := Nat.eq_of_beq_eq_true ax
    obtain ⟨r, rfl, a, b, rfl⟩ := X9 h
    exact anh bk.d a b H
  | false => rw [ax] at h; cases h
theorem good : Ab.goodB Tryz.prog = true := by kernel_rfl
end Seal
namespace Go.Proofs
open Go.RowKit Go.Shelf Go.Lib
set_option maxRecDepth 100000
def Tryz.Bw : Ren :=
{ f := fun x =>
    match x with
    | 204 => 160
    | 262 => 214
    | 274 => 264
    | 275 => 265
    | 313 => 244
    | n => n,
  t := fun x =>
    match x with
    | 46 => 75
    | 51 => 338
    | 160 => 405
    | 162 => 382
    | 203 => 380
    | 206 => 432
    | 208 => 434
    | n => n,
  g := fun x =>
    match x with
    | 13 => 3
    | n => n }
theorem Tryz.Ya : Lays.n204 Tryz.prog Tryz.Bw :=
{ mixed := Eq.refl true,
  f204 := Eq.trans Tryz.func160 (congrArg some (Eq.refl (Body.n204 Tryz.Bw))),
  f262 := Eq.trans Tryz.func214 (congrArg some (Eq.refl (Body.n262 Tryz.Bw))),
  f274 := Eq.trans Tryz.func264 (congrArg some (Eq.refl (Body.n274 Tryz.Bw))),
  f275 := Eq.trans Tryz.func265 (congrArg some (Eq.refl (Body.n275 Tryz.Bw))),
  f313 := Eq.trans Tryz.func244 (congrArg some (Eq.refl (Body.n313 Tryz.Bw))),
  t0 := Tryz.underlying0,
  a0 := Tryz.isAgg0,
  z0 := Tryz.sizeOf0,
  v0 := Tryz.zeroValue0,
  t3 := Tryz.underlying3,
  a3 := Tryz.isAgg3,
  z3 := Tryz.sizeOf3,
  v3 := Tryz.zeroValue3,
  t4 := Tryz.underlying4,
  a4 := Tryz.isAgg4,
  z4 := Tryz.sizeOf4,
  v4 := Tryz.zeroValue4,
  t21 := Tryz.underlying21,
  a21 := Tryz.isAgg21,
  z21 := Tryz.sizeOf21,
  v21 := Tryz.zeroValue21,
  t46 := Tryz.underlying75,
  a46 := Tryz.isAgg75,
  z46 := Tryz.sizeOf75,
  v46 := Tryz.zeroValue75,
  t51 := Tryz.underlying338,
  a51 := Tryz.isAgg338,
  z51 := Tryz.sizeOf338,
  v51 := Tryz.zeroValue338,
  t160 := Tryz.underlying405,
  a160 := Tryz.isAgg405,
  z160 := Tryz.sizeOf405,
  v160 := Tryz.zeroValue405,
  t162 := Tryz.underlying382,
  a162 := Tryz.isAgg382,
  z162 := Tryz.sizeOf382,
  v162 := Tryz.zeroValue382,
  t203 := Tryz.underlying380,
  a203 := Tryz.isAgg380,
  z203 := Tryz.sizeOf380,
  v203 := Tryz.zeroValue380,
  t206 := Tryz.underlying432,
  a206 := Tryz.isAgg432,
  z206 := Tryz.sizeOf432,
  v206 := Tryz.zeroValue432,
  t208 := Tryz.underlying434,
  a208 := Tryz.isAgg434,
  z208 := Tryz.sizeOf434,
  v208 := Tryz.zeroValue434,
  g13 := by kernel_rfl }
def Tryz.Gx : Ren :=
{ f := fun x =>
    match x with
    | 167 => 178
    | 168 => 179
    | 240 => 223
    | 242 => 224
    | 276 => 249
    | 278 => 250
    | n => n,
  t := fun x =>
    match x with
    | 37 => 22
    | 46 => 75
    | 51 => 338
    | 70 => 301
    | 72 => 303
    | 75 => 306
    | 80 => 310
    | 164 => 386
    | n => n,
  g := fun x =>
    match x with
    | n => n }
theorem Tryz.anH : Lays.n167 Tryz.prog Tryz.Gx :=
{ mixed := Eq.refl true,
  f167 := Eq.trans Tryz.func178 (congrArg some (Eq.refl (Body.n167 Tryz.Gx))),
  f240 := Eq.trans Tryz.func223 (congrArg some (Eq.refl (Body.n240 Tryz.Gx))),
  f276 := Eq.trans Tryz.func249 (congrArg some (Eq.refl (Body.n276 Tryz.Gx))),
  t0 := Tryz.underlying0,
  a0 := Tryz.isAgg0,
  z0 := Tryz.sizeOf0,
  v0 := Tryz.zeroValue0,
  t4 := Tryz.underlying4,
  a4 := Tryz.isAgg4,
  z4 := Tryz.sizeOf4,
  v4 := Tryz.zeroValue4,
  t5 := Tryz.underlying5,
  a5 := Tryz.isAgg5,
  z5 := Tryz.sizeOf5,
  v5 := Tryz.zeroValue5,
  t9 := Tryz.underlying9,
  a9 := Tryz.isAgg9,
  z9 := Tryz.sizeOf9,
  v9 := Tryz.zeroValue9,
  t20 := Tryz.underlying20,
  a20 := Tryz.isAgg20,
  z20 := Tryz.sizeOf20,
  v20 := Tryz.zeroValue20,
  t37 := Tryz.underlying22,
  a37 := Tryz.isAgg22,
  z37 := Tryz.sizeOf22,
  v37 := Tryz.zeroValue22,
  t70 := Tryz.underlying301,
  a70 := Tryz.isAgg301,
  z70 := Tryz.sizeOf301,
  v70 := Tryz.zeroValue301,
  t72 := Tryz.underlying303,
  a72 := Tryz.isAgg303,
  z72 := Tryz.sizeOf303,
  v72 := Tryz.zeroValue303,
  t75 := Tryz.underlying306,
  a75 := Tryz.isAgg306,
  z75 := Tryz.sizeOf306,
  v75 := Tryz.zeroValue306,
  t164 := Tryz.underlying386,
  a164 := Tryz.isAgg386,
  z164 := Tryz.sizeOf386,
  v164 := Tryz.zeroValue386 }
def Tryz.Bx : Ren :=
{ f := fun x =>
    match x with
    | 167 => 178
    | 168 => 179
    | 240 => 223
    | 242 => 224
    | 276 => 249
    | 278 => 250
    | n => n,
  t := fun x =>
    match x with
    | 37 => 22
    | 46 => 75
    | 51 => 338
    | 70 => 301
    | 72 => 303
    | 75 => 306
    | 80 => 310
    | 164 => 386
    | n => n,
  g := fun x =>
    match x with
    | n => n }
theorem Tryz.anI : Lays.n168 Tryz.prog Tryz.Bx :=
{ mixed := Eq.refl true,
  f168 := Eq.trans Tryz.func179 (congrArg some (Eq.refl (Body.n168 Tryz.Bx))),
  f240 := Eq.trans Tryz.func223 (congrArg some (Eq.refl (Body.n240 Tryz.Bx))),
  f242 := Eq.trans Tryz.func224 (congrArg some (Eq.refl (Body.n242 Tryz.Bx))),
  f276 := Eq.trans Tryz.func249 (congrArg some (Eq.refl (Body.n276 Tryz.Bx))),
  f278 := Eq.trans Tryz.func250 (congrArg some (Eq.refl (Body.n278 Tryz.Bx))),
  t0 := Tryz.underlying0,
  a0 := Tryz.isAgg0,
  z0 := Tryz.sizeOf0,
  v0 := Tryz.zeroValue0,
  t3 := Tryz.underlying3,
  a3 := Tryz.isAgg3,
  z3 := Tryz.sizeOf3,
  v3 := Tryz.zeroValue3,
  t4 := Tryz.underlying4,
  a4 := Tryz.isAgg4,
  z4 := Tryz.sizeOf4,
  v4 := Tryz.zeroValue4,
  t5 := Tryz.underlying5,
  a5 := Tryz.isAgg5,
  z5 := Tryz.sizeOf5,
  v5 := Tryz.zeroValue5,
  t9 := Tryz.underlying9,
  a9 := Tryz.isAgg9,
  z9 := Tryz.sizeOf9,
  v9 := Tryz.zeroValue9,
  t20 := Tryz.underlying20,
  a20 := Tryz.isAgg20,
  z20 := Tryz.sizeOf20,
  v20 := Tryz.zeroValue20,
  t21 := Tryz.underlying21,
  a21 := Tryz.isAgg21,
  z21 := Tryz.sizeOf21,
  v21 := Tryz.zeroValue21,
  t37 := Tryz.underlying22,
  a37 := Tryz.isAgg22,
  z37 := Tryz.sizeOf22,
  v37 := Tryz.zeroValue22,
  t46 := Tryz.underlying75,
  a46 := Tryz.isAgg75,
  z46 := Tryz.sizeOf75,
  v46 := Tryz.zeroValue75,
  t51 := Tryz.underlying338,
  a51 := Tryz.isAgg338,
  z51 := Tryz.sizeOf338,
  v51 := Tryz.zeroValue338,
  t70 := Tryz.underlying301,
  a70 := Tryz.isAgg301,
  z70 := Tryz.sizeOf301,
  v70 := Tryz.zeroValue301,
  t72 := Tryz.underlying303,
  a72 := Tryz.isAgg303,
  z72 := Tryz.sizeOf303,
  v72 := Tryz.zeroValue303,
  t75 := Tryz.underlying306,
  a75 := Tryz.isAgg306,
  z75 := Tryz.sizeOf306,
  v75 := Tryz.zeroValue306,
  t164 := Tryz.underlying386,
  a164 := Tryz.isAgg386,
  z164 := Tryz.sizeOf386,
  v164 := Tryz.zeroValue386 }
def Tryz.PX : Ren :=
{ f := fun x =>
    match x with
    | 169 => 180
    | n => n,
  t := fun x =>
    match x with
    | 37 => 22
    | 70 => 301
    | 72 => 303
    | 127 => 353
    | n => n,
  g := fun x =>
    match x with
    | n => n }
theorem Tryz.anJ : Lays.n169 Tryz.prog Tryz.PX :=
{ mixed := Eq.refl true,
  f169 := Eq.trans Tryz.func180 (congrArg some (Eq.refl (Body.n169 Tryz.PX))),
  t0 := Tryz.underlying0,
  a0 := Tryz.isAgg0,
  z0 := Tryz.sizeOf0,
  v0 := Tryz.zeroValue0,
  t3 := Tryz.underlying3,
  a3 := Tryz.isAgg3,
  z3 := Tryz.sizeOf3,
  v3 := Tryz.zeroValue3,
  t9 := Tryz.underlying9,
  a9 := Tryz.isAgg9,
  z9 := Tryz.sizeOf9,
  v9 := Tryz.zeroValue9,
  t37 := Tryz.underlying22,
  a37 := Tryz.isAgg22,
  z37 := Tryz.sizeOf22,
  v37 := Tryz.zeroValue22,
  t70 := Tryz.underlying301,
  a70 := Tryz.isAgg301,
  z70 := Tryz.sizeOf301,
  v70 := Tryz.zeroValue301,
  t72 := Tryz.underlying303,
  a72 := Tryz.isAgg303,
  z72 := Tryz.sizeOf303,
  v72 := Tryz.zeroValue303,
  t127 := Tryz.underlying353,
  a127 := Tryz.isAgg353,
  z127 := Tryz.sizeOf353,
  v127 := Tryz.zeroValue353 }
theorem Tryz.anK : Builder.Extra Tryz.prog Tryz.Gx where
  sizeBuilder := by rfl
  liesBuilder := by rfl
  t5 := Tryz.underlying5
  a5 := Tryz.isAgg5
  z5 := Tryz.sizeOf5
  v5 := Tryz.zeroValue5
  infoByte := by rfl
  cellsByte := by rfl
  sizeByte := by rfl
  neB5 := by decide
theorem Tryz.anL : Builder.Extra Tryz.prog Tryz.Bx where
  sizeBuilder := by rfl
  liesBuilder := by rfl
  t5 := Tryz.underlying5
  a5 := Tryz.isAgg5
  z5 := Tryz.sizeOf5
  v5 := Tryz.zeroValue5
  infoByte := by rfl
  cellsByte := by rfl
  sizeByte := by rfl
  neB5 := by decide
theorem Tryz.anM : Builder.Extra Tryz.prog Tryz.PX where
  sizeBuilder := by rfl
  liesBuilder := by rfl
  t5 := Tryz.underlying5
  a5 := Tryz.isAgg5
  z5 := Tryz.sizeOf5
  v5 := Tryz.zeroValue5
  infoByte := by rfl
  cellsByte := by rfl
  sizeByte := by rfl
  neB5 := by decide
theorem Tryz.anN (B b : Nat) (bs : List Value) (c : Int) (w : World) (h : Lib.IsBuilderF 303 5 B b bs w) (hlen : bs.length + 1 <= 140737488355328) (Gy : B <= w.heap.size) :
    Calls Tryz.prog 178 #[.pointer (some ⟨b, 0, none⟩), .int .u8 c] w fun e aL => e = .returned .nilIface /\ (Lib.BuilderAtF 303 5 B b (.pointer (some ⟨b, 0, none⟩)) (bs ++ [.int .u8 c]) aL /\ Below B w aL /\ Lib.OthersKept 5 (some b) w aL) := Any.Builder_WriteByte_k Tryz.anH Tryz.anK B b bs c w h hlen Gy
theorem Tryz.anO (B b : Nat) (bs : List Value) (r : Int) (Oy : -2147483648 <= r) (oa : r <= 2147483647) (w : World) (h : Lib.IsBuilderF 303 5 B b bs w) (hlen : bs.length + 4 <= 140737488355328) (Gy : B <= w.heap.size) :
    Calls Tryz.prog 179 #[.pointer (some ⟨b, 0, none⟩), .int .i32 r] w fun e aL => e = .returned (.tuple #[.int .i64 (Lib.runeCells r).length, .nilIface]) /\ (Lib.BuilderAtF 303 5 B b (.pointer (some ⟨b, 0, none⟩)) (bs ++ Lib.runeCells r) aL /\ Below B w aL /\ Lib.OthersKept 5 (some b) w aL) := Any.Builder_WriteRune_k Tryz.anI Tryz.anL B b bs r Oy oa w h hlen Gy
theorem Tryz.anP (B b : Nat) (l : List UInt8) (w : World) (h : Lib.IsBuilderF 303 5 B b (Lib.byteCells l) w) (Gy : B <= w.heap.size) :
    Calls Tryz.prog 180 #[.pointer (some ⟨b, 0, none⟩)] w fun e aL => e = .returned (.string ⟨l.toArray⟩) /\ (Lib.IsBuilderF 303 5 B b (Lib.byteCells l) aL /\ Below B w aL /\ Lib.OthersKept 5 (some b) w aL) := Any.Builder_String_any_k Tryz.anJ Tryz.anM B b l w h Gy
theorem Tryz.anQ (r : Int) (w : World) (hV : CaseVar 3 caseA w) :
    Calls Tryz.prog 160 #[.int .i32 r] w fun e aL => e = .returned (.int .i32 (toLowerU r)) /\ ∃ q, aL = w.drewN q := Any.unicode_ToLower_laid Tryz.Ya r w hV
end Go.Proofs
namespace Seal
open Go Go.Lib Go.Proofs Go.RowKit
structure tj (w : World) : Prop where
  t : ti w
  c : CaseVar 3 caseA w
theorem tj.below {w aL : World} (h : tj w) (an : Below w.heap.size w aL) : tj aL := by
  refine ⟨h.t.below an, ?_⟩
  have ns : ∀ a v, w.cell? a = some v -> aL.cell? a = some v := fun a v br => by
    have ea : a.block < w.heap.size := by
      grind[World.cell?]
    rw [an.cell ea]; exact br
  obtain ⟨R, PY, cap, ad, af⟩ := h.c
  refine ⟨R, PY, cap, ns _ _ ad, fun i aq => ?_⟩
  obtain ⟨dm, da, a3, a4, a5⟩ := af i aq
  simp_all
theorem anR (r : Int) (aR : 0 <= r) (ad : r <= 2147483647) : -2147483648 <= toLowerU r /\ toLowerU r <= 2147483647 := by
  rw [<- toLowerW_caseA]
  grind[Go.Proofs.Lib.toLowerW,toW,wrap32]
def Gz (s : ByteArray) (bh : Nat) : List UInt8 := if zt s bh (Utf8.decode s bh).1 then [s.get! bh] else encodeRune (toLowerU (Utf8.decode s bh).1)
def vE (s : ByteArray) : Nat -> Nat -> List UInt8
  | 0, _ => []
  | f + 1, bh => if bh < s.size then Gz s bh ++ vE s f (bh + (Utf8.decode s bh).2) else []
theorem anS (s : ByteArray) (f bh : Nat) (h : ¬ bh < s.size) : vE s f bh = [] := by
  cases f with
  | zero => rfl
  | succ f => simp [vE, h]
def zu (s : ByteArray) : ByteArray := ⟨(vE s s.size 0).toArray⟩
theorem anT (w : World) (q : Nat) : Below w.heap.size w (w.drewN q) := ⟨rfl, rfl, rfl, Nat.le_refl _, fun _ _ => rfl⟩
theorem Yb (r : Int) (w : World) (hV : CaseVar 3 caseA w) : Calls Tryz.prog 160 #[.int .i32 r] w fun e aL => e = .returned (.int .i32 (toLowerU r)) /\ Below w.heap.size w aL :=
  (Tryz.anQ r w hV).mono fun e aL ⟨he, q, aM⟩ => ⟨he, aM ▸ anT w q⟩
set_option maxRecDepth 1000000 in
theorem anU (s : ByteArray) (w : World) (bk : tj w) (aw : s.size <= 35184372088832) :
    Calls Tryz.prog 122 #[.string s] w fun e aL => e = .returned (.string (zu s)) /\ Below w.heap.size w aL := by
  go_enter Tryz.func122, Tryz.ntmps122
  go_wp2
  go_loopw [] (fun wr => ∃ (bh mi : Nat) (jr : List UInt8), Lib.IsBuilderF 303 5 w.heap.size w.heap.size (Lib.byteCells jr) wr /\ wr.heap[w.heap.size + 1]? = some (.stringIter s bh) /\ Below w.heap.size w wr /\ jr ++ vE s mi bh = vE s s.size 0 /\ s.size <= bh + mi /\ jr.length <= 4 * bh) (fun wr => s.size - wr.iterPos (w.heap.size + 1))
  case atStart =>
    refine ⟨0, s.size, [], (Lib.IsBuilderF.of (Lib.fresh_isBuilder 303 5 w)).alloc _, ?_, ((Below.refl _ w).alloc (Nat.le_refl _) _).alloc (by simp) _, rfl, by omega, by simp⟩
    have := World.iter_heap (w.alloc (.cells #[.pointer none, .slice none 0 0] 303)) s 0
    simp_all
  case round =>
    obtain ⟨bh, mi, jr, ja, By, Yc, Yd, aB6, th⟩ := hrel
    have eU : w.heap.size + 1 < wr.heap.size := (Array.getElem?_eq_some_iff.1 By).1
    by_cases bM : bh < s.size
    · have wo : ∀ c2, (Instr.next (.pointer (some ⟨w.heap.size + 1, 0, none⟩)) true c2).run Tryz.prog wr = _ := fun c2 => Lib.run_next_any_at wr (w.heap.size + 1) s bh c2 By bM
      have anp := X5 s bh bM
      have qJ := decode_le s bh
      have Ye := ja.iterAt By (bh + (Utf8.decode s bh).2)
      have PZ := Lib.iterAt_heap wr (w.heap.size + 1) s bh (bh + (Utf8.decode s bh).2) By
      have KE := Lib.below_iterAt Yc (k := w.heap.size + 1) (by omega) s (bh + (Utf8.decode s bh).2)
      have anV : w.heap.size <= (wr.iterAt (w.heap.size + 1) s (bh + (Utf8.decode s bh).2)).heap.size := by grind
      obtain ⟨f, rfl⟩ : ∃ f, mi = f + 1 := ⟨mi - 1, by omega⟩
      generalize wr.iterAt (w.heap.size + 1) s (bh + (Utf8.decode s bh).2) = dF at *
      have yT : tj dF := bk.below KE
      have ea : w.heap.size + 1 < dF.heap.size := (Array.getElem?_eq_some_iff.1 PZ).1
      have DZ : Calls Tryz.prog 177 #[.string s, .int .i64 bh, .int .i32 (Utf8.decode s bh).1] dF fun e aL => e = .returned (.bool (zt s bh (Utf8.decode s bh).1)) /\ Below dF.heap.size dF aL := X4 s bh (Nat.le_of_lt bM) (Utf8.decode s bh).1 dF yT.t.aU
      obtain ⟨fc, Gv⟩ : ∃ fc, zt s bh (Utf8.decode s bh).1 = fc := ⟨_, rfl⟩
      rw [Gv] at DZ
      go_wp2_with fail
      refine DZ.mono fun e e3 ⟨he, pB⟩ => ?_
      subst he
      have D9 : Below w.heap.size w e3 := KE.trans (pB.mono KE.size)
      have GA : e3.heap[w.heap.size + 1]? = some (.stringIter s (bh + (Utf8.decode s bh).2)) := by rw [pB.block _ ea]; exact PZ
      have P0 := Ye.below pB
      have Yf : tj e3 := bk.below D9
      have anW : w.heap.size <= e3.heap.size := D9.size
      clear PZ KE pB Ye DZ yT
      cases fc with
      | true =>
        go_wp2_with (go_at_call 178; refine (Tryz.anN w.heap.size w.heap.size _ _ _ P0 (by rw [Lib.byteCells_length]; omega) anW).mono ?_)
        rintro e W1 ⟨rfl, ad, fj, eJ⟩
        go_wp2
        go_roundw
        case rel =>
          refine ⟨bh + (Utf8.decode s bh).2, f, jr ++ [s.get! bh], ?_, eJ.iter GA (by omega), D9.trans fj, ?_, by omega, by grind⟩
          · rw [Lib.byteCells_append]
            have anX : s.get! bh = s[bh]'bM := by cases s with | mk d => exact getElem!_pos d bh bM
            rw [anX]
            exact Or.inr ad
          simp_all[vE,Gz]
        case measure =>
          simp only [World.iterPos, eJ.iter GA (by omega), By]
          omega
      | false =>
        have r9 := anR (Utf8.decode s bh).1 (by omega) (by omega)
        have KA := Yb (Utf8.decode s bh).1 e3 Yf.c
        go_wp2_with fail
        refine KA.mono fun e kR ⟨he, x6⟩ => ?_
        subst he
        have anY : w.heap.size + 1 < e3.heap.size := (Array.getElem?_eq_some_iff.1 GA).1
        have Yg : Below w.heap.size w kR := D9.trans (x6.mono D9.size)
        have Yh : kR.heap[w.heap.size + 1]? = some (.stringIter s (bh + (Utf8.decode s bh).2)) := by rw [x6.block _ anY]; exact GA
        have anZ := P0.below x6
        have an0 : w.heap.size <= kR.heap.size := Yg.size
        clear GA D9 x6 P0 KA Yf
        go_wp2_with (go_at_call 179; refine (Tryz.anO w.heap.size w.heap.size _ _ r9.1 r9.2 _ anZ (by rw [Lib.byteCells_length]; omega) an0).mono ?_)
        rintro e W1 ⟨rfl, ad, fj, eJ⟩
        go_wp2
        go_roundw
        case rel =>
          have KF := Lib.runeCells_le (toLowerU ((Utf8.decode s bh).1 : Int))
          rw [Lib.runeCells_length] at KF
          refine ⟨bh + (Utf8.decode s bh).2, f, jr ++ Lib.encodeRune (toLowerU (Utf8.decode s bh).1), ?_, eJ.iter Yh (by omega), Yg.trans fj, ?_, by omega, by grind⟩
          · rw [Lib.byteCells_append, Lib.byteCells_encodeRune]; exact Or.inr ad
          simp_all[vE,Gz]
        case measure =>
          simp only [World.iterPos, eJ.iter Yh (by omega), By]
          omega
    · have wo : ∀ c2, (Instr.next (.pointer (some ⟨w.heap.size + 1, 0, none⟩)) true c2).run Tryz.prog wr = _ := fun c2 => Lib.run_next_end_at wr (w.heap.size + 1) s bh c2 By bM
      go_wp2_with (go_at_call 180; refine (Tryz.anP w.heap.size w.heap.size jr _ ja (by omega)).mono ?_)
      rintro e W1 ⟨rfl, _, fj, _⟩
      go_wp2
      go_ret
      rw [anS s mi bh bM, List.append_nil] at Yd
      subst Yd
      exact ⟨rfl, Yc.trans fj⟩
end Seal
namespace Seal
open Go Go.Lib Go.Shelf Go.Proofs Go.Proofs.YtifflnhooaophaaGreatDoor
variable {W: World}
theorem tabs2_of_reads (ad : VarReads Tryz.prog W "unicode/utf8.acceptRanges" Rows.laid_unicode_utf8_acceptRanges) (af : VarReads Tryz.prog W "unicode.properties" Rows.laid_unicode_properties)
    (ax : VarReads Tryz.prog W "unicode.CaseRanges" Rows.laid_unicode_CaseRanges) (aO : VarReads Tryz.prog W "unicode.Digit" Rows.laid_unicode_Digit) (bl : VarReads Tryz.prog W "unicode.Letter" Rows.laid_unicode_Letter) (bL : VarReads Tryz.prog W "unicode/utf8.first" Rows.laid_unicode_utf8_first) : tj W := by
  refine ⟨anE ad af aO bl bL, ?_⟩
  have ax : VarReads Tryz.prog W "unicode.CaseRanges" Pinned.caseRanges := ax
  rw [Pinned.caseRanges_eq] at ax
  exact caseVar_of_reads (ρ := Tryz.Bw) { Tryz.Ya with } (by rfl) (by constructor <;> kernel_rfl) ax
theorem Yi {P : Program} {B : Nat} {σ : Ab.cQ} {h : Nat -> Option Ab.Obj} {H : Ab.au} {w W : World} (k : @Ab.gY (Ab.nJ W) P B σ h H w) {g : Nat} {T : Array CaseRow} (hV : CaseVar g T W) : CaseVar g T w := by
  obtain ⟨R, PY, cap, ad, af⟩ := hV
  refine ⟨R, PY, cap, Ab.x5 k ad, fun i aq => ?_⟩
  obtain ⟨dm, da, a3, a4, a5⟩ := af i aq
  grind[Ab.x5]
theorem an1 {B : Nat} {σ : Ab.cQ} {h : Nat -> Option Ab.Obj} {H : Ab.au} {w W : World} (k : @Ab.gY (Ab.nJ W) Tryz.prog B σ h H w) (bk : tj W) : tj w := ⟨X8 k bk.t, Yi k bk.c⟩
theorem an2 (bk : tj W) {s : ByteArray} (aw : s.size <= 35184372088832) (H : Ab.au) : @Ab.vv (Ab.nJ W) Tryz.prog 122 [.string s] H (.string (zu s)) :=
  Ab.Gu rfl rfl ⟨_, _, Tryz.func122, rfl⟩ fun B σ h w k => anU s w (an1 k bk) aw
theorem an3 (bk : tj W) (r : Int) (H : Ab.au) : @Ab.vv (Ab.nJ W) Tryz.prog 160 [.int .i32 r] H (.int .i32 (toLowerU r)) :=
  Ab.Gu rfl rfl ⟨_, _, Tryz.func160, rfl⟩ fun B σ h w k => Yb r w (Yi k bk.c)
def KG (args : List Value) : Option Value := match args with
  | [.string s] => cond (Nat.ble s.size 35184372088832) (some (.string (zu s))) none
  | _ => none
def KH (args : List Value) : Option Value := match args with
  | [.int .i32 r] => some (.int .i32 (toLowerU r))
  | _ => none
noncomputable def zv : Code := Ab.x1 Tryz.prog 144 (Ab.amu 182 316 320 48)
noncomputable def GB : Code := Ab.x1 Tryz.prog 236 Ab.amt
noncomputable def zw : Code := Ab.x1 Tryz.prog 127 (Ab.amA 182 316 59)
noncomputable abbrev Ea : Ab.ep := ⟨fun f args H => cond (Nat.beq f 122) (KG args) (cond (Nat.beq f 160) (KH args) (PW.lf f args H)), fun f => cond (Nat.beq f 144) (some zv) (cond (Nat.beq f 236) (some GB) (cond (Nat.beq f 127) (some zw) none))⟩
theorem an4 {args : List Value} {v : Value} (h : KG args = some v) : ∃ s, args = [.string s] /\ s.size <= 35184372088832 /\ v = .string (zu s) := by
  unfold KG at h
  split at h
  · rename_i s
    cases an : Nat.ble s.size 35184372088832 with
    | false => simp_all
    | true =>
      simp_all
  · cases h
theorem an5 {args : List Value} {v : Value} (h : KH args = some v) : ∃ r, args = [.int .i32 r] /\ v = .int .i32 (toLowerU r) := by
  unfold KH at h
  grind
theorem an6 (bk : tj W) (f : FuncId) (args : List Value) (H : Ab.au) (v : Value) (h : Ea.lf f args H = some v) : @Ab.vv (Ab.nJ W) Tryz.prog f args H v := by
  have h : cond (Nat.beq f 122) (KG args) (cond (Nat.beq f 160) (KH args) (PW.lf f args H)) = some v := h
  cases ad : Nat.beq f 122 with
  | true =>
    rw [ad] at h
    obtain rfl := Nat.eq_of_beq_eq_true ad
    obtain ⟨s, rfl, aw, rfl⟩ := an4 h
    exact an2 bk aw H
  | false =>
  rw [ad] at h
  cases af : Nat.beq f 160 with
  | true =>
    rw [af] at h
    obtain rfl := Nat.eq_of_beq_eq_true af
    obtain ⟨r, rfl, rfl⟩ := an5 h
    exact an3 bk r H
  | false =>
  rw [af] at h
  exact anG bk.t f args H v h
end Seal
namespace Seal
open Go Go.Ab
variable {W: World}
noncomputable abbrev fJ : Program := Go.Proofs.Tryz.prog
noncomputable abbrev ck : Code := x1 fJ 144 id
noncomputable abbrev eD : Code := x1 fJ 206 id
noncomputable abbrev vF : Code := c1 (c1 ck)
noncomputable abbrev x7 : Code := du (c1 (dS vF))
noncomputable abbrev wS : Code := c1 (c1 vF)
noncomputable abbrev Yj : Code := dS (c1 vF)
noncomputable abbrev bc : Code := du (c1 (c1 (dS wS)))
noncomputable abbrev oC : Oper := iP (dS (c1 ck)) 0
noncomputable abbrev k9 : Oper := iP (dS (c1 ck)) 1
theorem an7 [hy] : Gs fJ 206 (wQ fJ 206) 154 259 9 40 (.int .i64 192) (ob (du (c1 eD))) := by
  have dj := X0 (P := fJ) (ne := iP (dS eD) 1) (t := (match (iP (dS eD) 1).op with | .binOp _ t _ _ _ => t | _ => 0)) (yt := (match (iP (dS eD) 1).op with | .binOp _ _ _ _ t => t | _ => 0)) (ms := #[]) (by rfl) (by rfl)
  refine ⟨DV (by rfl), ⟨nr (dS eD), nr (du (c1 eD)), iP (dS eD) 0, iP (dS eD) 1, by rfl, XZ (tys := (DX (iP (dS eD) 0)).argTypes) (by rfl), by rfl, by rfl, by rfl, by rfl, dj.1, dj.2⟩, by rfl, ?_, ⟨⟨iP (du (c1 eD)) 0, iP (du (c1 eD)) 1, iP (du (c1 eD)) 2, iP (du (c1 eD)) 3, by rfl, ⟨by rfl, by rfl, by rfl⟩, ⟨by rfl, by rfl, by rfl⟩, ⟨by rfl, by rfl, by rfl⟩, ⟨by rfl, by rfl, by rfl⟩⟩, by rfl⟩⟩
  simp_all[wQ,Jo]
theorem Yk : Bq fJ 154 259 9 40 (.int .i64 192) 2 44 45 46 (ob (dS bc)).toList :=
  ⟨⟨iP (dS bc) 0, iP (dS bc) 1, iP (dS bc) 2, iP (dS bc) 3, by rfl, ⟨by rfl, by rfl, by rfl⟩, ⟨by rfl, by rfl, by rfl⟩, ⟨by rfl, by rfl, by rfl⟩, ⟨by rfl, by rfl, by rfl⟩⟩, by rfl⟩
theorem KI [hy] {bq : hl} {R : Code} {i : Nat} {bA : Array Oper} (h : R = .seq (.region i bA false) .ret) (T : List Value) (H : au) (o : ef) (U : (dr fJ true R).f bq T H = some o) : o.cP = .ret /\ ∃ bW, jo fJ bq bA.toList bA.toList T H = some bW /\ bW.H = o.H := by
  subst h
  have U : nb (jo fJ bq bA.toList bA.toList T H) (fun T H => some ⟨.ret, T, H⟩) = some o := U
  obtain ⟨bW, ad, af⟩ := sh U
  rcases af with ⟨_, af⟩ | ⟨ao, rfl⟩
  · grind
  · exfalso
    have : ∀ (l : List Oper) (T : List Value) (H : au), jo fJ bq bA.toList l T H = some o -> o.cP = .normal := by
      intro l
      induction l with
      | nil => intro T H h; cases h; rfl
      | cons x l bd =>
        intro T H h
        have h : gE fJ bq x ((ie bA.toList x.guard).f T) T H (jo fJ bq bA.toList l) = some o := h
        unfold gE at h
        grind
    simp_all
theorem Yl [hy] {bq : hl} {all l : List Oper} {tt hI f el : Nat} {a6 : Value} {s b c d : Nat} (h : Bq fJ tt hI f el a6 s b c d l) (T : List Value) (H : au) (o : ef) (U : jo fJ bq all l T H = some o) : ∃ v, (n1 fJ tt).f (b3 T s) H = some (v, H) := by
  obtain ⟨⟨bW, dt, hn, fy, rfl, ⟨dm, da, a3⟩, _⟩, _⟩ := h
  have U : gE fJ bq bW ((ie all bW.guard).f T) T H (jo fJ bq all [dt, hn, fy]) = some o := U
  rw [a3] at U
  have U : gE fJ bq bW true T H (jo fJ bq all [dt, hn, fy]) = some o := U
  unfold gE at U
  simp only at U
  rw [Kp dm] at U
  grind[PA]
noncomputable abbrev mq : Nat := 48
theorem zq : fJ.underlying fJ.rt.typeAssertionError = some (.pointer (match fJ.underlying fJ.rt.typeAssertionError with | some (.pointer e) => e | _ => 0)) := by rfl
noncomputable abbrev an8 : TypeDesc := (fJ.underlying 316).getD .bool
noncomputable abbrev an9 : TypeDesc := (fJ.underlying 320).getD .bool
theorem KJ : fJ.underlying 316 = some an8 := by rfl
theorem Ym : fJ.underlying 320 = some an9 := by rfl
def aoa : TypeDesc -> Bool | .interface _ => true | _ => false
theorem Eb {iH : TypeDesc} (h : aoa iH = false) : ∀ ms, iH ≠ .interface ms := by rintro ms rfl; cases h
theorem aob [hy] [ep] (dz : en fJ) {bq : hl} (bE : h7 fJ bq) : ql fJ bq 2 mq bc (c1 (c1 zv)) vF := by
  have hZ : vF = .seq (.seq (dS (dS vF)) (.cond (XY (c1 (dS vF))) x7 .skip)) (.seq Yj wS) := by rfl
  have bn : c1 (c1 zv) = .seq (.seq (dS (dS vF)) (.cond (XY (c1 (dS vF))) (x0 oC 1 182 316 mq x7 bc) .skip)) (.seq Yj (x0 oC 1 182 320 mq wS bc)) := by rfl
  have Bz : bc = .seq (.region (nr (dS bc)) (ob (dS bc)) false) .ret := by rfl
  have zx : ∀ T H o, (dr fJ true bc).f bq T H = some o -> o.cP = .ret := fun T H o h => (KI Bz T H o h).1
  have zr : ∀ T H o, (dr fJ true bc).f bq T H = some o -> ∃ v, (n1 fJ 154).f (b3 T 2) H = some (v, H) := by
    grind[KI,Yl,Yk]
  rw [bn, hZ]
  refine ql.seq bE zx (nq.seq bE zx (nq.pG dz bE (by rfl) (by rfl) (by rfl) (by rfl)) (nq.cond ?_ (nq.pG dz bE rfl rfl rfl rfl))) (ql.seq bE zx (nq.pG dz bE (by rfl) (by rfl) (by rfl) (by rfl)) ?_)
  · refine nq.guard (tt := 154) dz bE zx zr KJ (Eb (by rfl)) (by rfl) (by rfl) (by rfl) (by rfl) (by decide) ?_
    have ey : x7 = .seq (.region (nr (dS x7)) (ob (dS x7)) true) .ret := by rfl
    rw [ey]
    refine qW.seq (qW.any (t := 182) (y := 14) (p := 3) (m := 2) (harm := [0, 1, 2]) (o := iP (dS x7) 3) dz bE zq KJ (Eb (by rfl)) (by rfl) (by rfl) (by rfl) (by decide) ?_ (by kernel_rfl))
    intro i aq
    rcases List.mem_cons.1 aq with rfl | aq
    · exact ⟨iP (dS x7) 0, 12, by rfl, by rfl, by rfl, by decide, by decide, .inr ⟨by rfl, by decide, by decide⟩⟩
    rcases List.mem_cons.1 aq with rfl | aq
    · exact ⟨iP (dS x7) 1, 13, by rfl, by rfl, by rfl, by decide, by decide, .inr ⟨by rfl, by decide, by decide⟩⟩
    rcases List.mem_cons.1 aq with rfl | aq
    · exact ⟨iP (dS x7) 2, 14, by rfl, by rfl, by rfl, by decide, by decide, .inl ⟨by rfl, rfl, rfl⟩⟩
    cases aq
  · refine ql.guard (tt := 154) dz bE zx zr Ym (Eb (by rfl)) (by rfl) (by decide) ?_
    have ey : wS = .seq (.seq (.region (nr (dS (dS wS))) (ob (dS (dS wS))) false) (c1 (dS wS))) (c1 wS) := by rfl
    rw [ey]
    exact qW.seq (qW.seq (qW.XI (t := 182) (y := 31) (m := iP (dS (dS wS)) 0) (o := iP (dS (dS wS)) 1) dz bE zq Ym (Eb (by rfl)) (by rfl) (by rfl) (by rfl) (by rfl) (by rfl) (by rfl) (by rfl) (by decide)))
theorem aoc [hy] [ep] (dz : en fJ) : Ds fJ 144 zv := by
  have e : zv = .seq (.region (nr (dS ck)) (ob (dS ck)) false) (.seq (.region (nr (dS (c1 ck))) #[oC] false) (c1 (c1 zv))) := by rfl
  have Bz : bc = .seq (.region (nr (dS bc)) (ob (dS bc)) false) .ret := by rfl
  rw [e]
  refine XR (g := 206) (t := 6) (s := 2) (k := mq) (b := 44) (c := 45) (d := 46) (fn := wQ fJ 144) (i1 := nr (dS (c1 ck))) (i9 := nr (dS bc)) (ops9 := ob (dS bc)) (mk := oC) (D := k9) (cc := DX k9) (Bc := vF) dz (DV (by rfl)) (by rfl) (by rfl) (by rfl) (by rfl) (by rfl) (by rfl) (by rfl) (by rfl) (by rfl) (Nat.le_of_ble_eq_true (by rfl)) (Nat.le_of_ble_eq_true (by rfl)) (Nat.le_of_ble_eq_true (by rfl)) (by decide) (by decide) (by rfl) (by rfl) an7 Yk (by decide) (by decide) (by decide) (by rfl) ?_
  intro bq bE
  rw [<- Bz]
  exact aob dz bE
noncomputable abbrev GC : Code := x1 fJ 236 id
noncomputable abbrev a4 : Code := dS (c1 (c1 (c1 GC)))
noncomputable abbrev a5 : Code := dS (c1 (c1 (c1 (c1 GC))))
noncomputable abbrev KK : Oper := iP a4 5
noncomputable def aod (bA : Array Oper) (l : List Operand) : Bool := l.all fun x => match x with | .tmp i => (r6 fJ bA.toList).all fun o => o.1.dst != some i | _ => false
theorem aoe {bA : Array Oper} {l : List Operand} (h : aod bA l = true) : ∀ x ∈ l, ∃ i, x = .tmp i /\ ∀ o ∈ r6 fJ bA.toList, o.1.dst ≠ some i := by
  intro x ao
  have ad := List.all_eq_true.1 h x ao
  grind
theorem aof (dz : en fJ) [hy] : @Ds _ Ea fJ 236 GB := by
  letI := Ea
  have e : GB = .seq (dS GC) (.seq (dS (c1 GC)) (.seq (dS (c1 (c1 GC))) (.seq (.region (nr a4) ((ob a4).toList.take 5).toArray false) (.seq (.region (nr a5) (ob a5) true) (.seq (.region (nr a4) #[{ KK with op := .call (DX KK), dst := none }] false) .ret))))) := by rfl
  rw [e]
  exact al5 (i4 := nr a4) (ops4 := ob a4) (g := 261) (fn := wQ fJ 236) (gn := wQ fJ 261) (gc := x1 fJ 261 id) (D := KK) (cc := DX KK) dz (DV (by rfl)) (by rfl) (by rfl) (by rfl) (by rfl) (by rfl) (fun o bJ => by
    have : ∀ o ∈ (ob a4).toList.take 5, o.guard = none := by
      have h : ((ob a4).toList.take 5).all (fun o => o.guard.isNone) = true := by rfl
      simp_all
    simp_all) (by rfl) (by rfl) (by rfl) (by rfl) rfl (by rfl) rfl (aoe (by rfl)) (DV (by rfl)) (by rfl) (by rfl) (fun args H => rfl) rfl
noncomputable abbrev BA : Code := x1 fJ 127 id
noncomputable abbrev tk : Code := x1 fJ 184 id
noncomputable abbrev Ec : Code := c1 (c1 BA)
noncomputable abbrev x8 : Code := c1 Ec
noncomputable abbrev nO : Code := du (c1 (dS (c1 x8)))
noncomputable abbrev Qa : Oper := iP (dS (c1 BA)) 0
noncomputable abbrev Yn : Oper := iP (dS (c1 BA)) 1
theorem aog [hy] : Gs fJ 184 (wQ fJ 184) 152 244 7 40 (.int .i64 192) (ob (du (c1 tk))) := by
  have dj := X0 (P := fJ) (ne := iP (dS tk) 1) (t := (match (iP (dS tk) 1).op with | .binOp _ t _ _ _ => t | _ => 0)) (yt := (match (iP (dS tk) 1).op with | .binOp _ _ _ _ t => t | _ => 0)) (ms := #[]) (by rfl) (by rfl)
  refine ⟨DV (by rfl), ⟨nr (dS tk), nr (du (c1 tk)), iP (dS tk) 0, iP (dS tk) 1, by rfl, XZ (tys := (DX (iP (dS tk) 0)).argTypes) (by rfl), by rfl, by rfl, by rfl, by rfl, dj.1, dj.2⟩, by rfl, ?_, ⟨⟨iP (du (c1 tk)) 0, iP (du (c1 tk)) 1, iP (du (c1 tk)) 2, iP (du (c1 tk)) 3, by rfl, ⟨by rfl, by rfl, by rfl⟩, ⟨by rfl, by rfl, by rfl⟩, ⟨by rfl, by rfl, by rfl⟩, ⟨by rfl, by rfl, by rfl⟩⟩, by rfl⟩⟩
  simp_all[wQ,Jo]
theorem Yo : Bq fJ 152 244 7 40 (.int .i64 192) 2 52 53 54 (ob (dS nO)).toList :=
  ⟨⟨iP (dS nO) 0, iP (dS nO) 1, iP (dS nO) 2, iP (dS nO) 3, by rfl, ⟨by rfl, by rfl, by rfl⟩, ⟨by rfl, by rfl, by rfl⟩, ⟨by rfl, by rfl, by rfl⟩, ⟨by rfl, by rfl, by rfl⟩⟩, by rfl⟩
theorem aoh [hy] [ep] (dz : en fJ) {bq : hl} (bE : h7 fJ bq) : ql fJ bq 2 59 nO (c1 (c1 zw)) Ec := by
  have hZ : Ec = .seq (dS Ec) x8 := by rfl
  have bn : c1 (c1 zw) = .seq (dS Ec) (x0 Qa 1 182 316 59 x8 nO) := by rfl
  have Bz : nO = .seq (.region (nr (dS nO)) (ob (dS nO)) false) .ret := by rfl
  have zx : ∀ T H o, (dr fJ true nO).f bq T H = some o -> o.cP = .ret := fun T H o h => (KI Bz T H o h).1
  have zr : ∀ T H o, (dr fJ true nO).f bq T H = some o -> ∃ v, (n1 fJ 152).f (b3 T 2) H = some (v, H) := by
    grind[KI,Yl,Yo]
  rw [bn, hZ]
  refine ql.seq bE zx (nq.pG dz bE (by rfl) (by rfl) (by rfl) (by rfl)) ?_
  refine ql.guard (tt := 152) dz bE zx zr KJ (Eb (by rfl)) (by rfl) (by decide) ?_
  have ey : x8 = .seq (.region (nr (dS x8)) (ob (dS x8)) false) (c1 x8) := by rfl
  rw [ey]
  exact qW.seq (qW.XI (t := 182) (y := 29) (m := iP (dS x8) 0) (o := iP (dS x8) 1) dz bE zq KJ (Eb (by rfl)) (by rfl) (by rfl) (by rfl) (by rfl) (by rfl) (by rfl) (by rfl) (by decide))
theorem aoi [hy] [ep] (dz : en fJ) : Ds fJ 127 zw := by
  have e : zw = .seq (.region (nr (dS BA)) (ob (dS BA)) false) (.seq (.region (nr (dS (c1 BA))) #[Qa] false) (c1 (c1 zw))) := by rfl
  have Bz : nO = .seq (.region (nr (dS nO)) (ob (dS nO)) false) .ret := by rfl
  rw [e]
  refine XR (g := 184) (t := 7) (s := 2) (k := 59) (b := 52) (c := 53) (d := 54) (fn := wQ fJ 127) (i1 := nr (dS (c1 BA))) (i9 := nr (dS nO)) (ops9 := ob (dS nO)) (mk := Qa) (D := Yn) (cc := DX Yn) (Bc := Ec) dz (DV (by rfl)) (by rfl) (by rfl) (by rfl) (by rfl) (by rfl) (by rfl) (by rfl) (by rfl) (by rfl) (Nat.le_of_ble_eq_true (by rfl)) (Nat.le_of_ble_eq_true (by rfl)) (Nat.le_of_ble_eq_true (by rfl)) (by decide) (by decide) (by rfl) (by rfl) aog Yo (by decide) (by decide) (by decide) (by rfl) ?_
  intro bq bE
  rw [<- Bz]
  exact aoh dz bE
theorem orcS2_ok (bk : tj W) : @FO (nJ W) Ea fJ := by
  letI := nJ W
  letI := Ea
  have dz := V7 good
  refine ⟨an6 bk, fun f c h => ?_⟩
  have h : cond (Nat.beq f 144) (some zv) (cond (Nat.beq f 236) (some GB) (cond (Nat.beq f 127) (some zw) none)) = some c := h
  cases ad : Nat.beq f 144 with
  | true =>
    rw [ad] at h
    obtain rfl := Nat.eq_of_beq_eq_true ad
    cases h
    exact aoc dz
  | false =>
  rw [ad] at h
  cases af : Nat.beq f 236 with
  | true =>
    rw [af] at h
    obtain rfl := Nat.eq_of_beq_eq_true af
    cases h
    exact aof dz
  | false =>
  rw [af] at h
  cases ax : Nat.beq f 127 with
  | true =>
    rw [ax] at h
    obtain rfl := Nat.eq_of_beq_eq_true ax
    cases h
    exact aoi dz
  | false => rw [ax] at h; cases h
end Seal
