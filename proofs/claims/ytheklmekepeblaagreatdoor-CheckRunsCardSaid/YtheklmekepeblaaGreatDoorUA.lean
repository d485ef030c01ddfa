/- texts of the proof, one behind the other -/
import Derived.Test.YtheklmekepeblaaGreatDoorProg
import Derived.WalkKit
import Derived.KernelRfl
import Derived.Shelf.Unicode.PredsPay
import Derived.Shelf.Unicode.DecodeAny
import Derived.Lib.OthersKept
import Derived.Test.YtheklmekepeblaaGreatDoorRows
import Derived.PinnedBridge
import Derived.Lib.LaidU8T
import Derived.Lib.LaidRTab
import Derived.Lib.LaidTab
import Derived.BigCall
import Derived.Shelf.Strings.BuilderK
import Derived.Shelf.Strings.BuilderRune
import Derived.Shelf.Unicode.CaseLaid
import Derived.Lib.RuneBytes
import Derived.Shelf.Strings.MapGrows
import Derived.Lib.LaidCase
import Derived.Test.YtheklmekepeblaaGreatDoorAbC
set_option linter.unusedVariables false
set_option linter.unusedSimpArgs false
set_option linter.unusedSectionVars false
namespace Go.Proofs
open Go.RowKit Go.Shelf Go.Lib
set_option maxRecDepth 100000
def Tryz.laysDigit_ren : Ren :=
{
  f := fun x =>
    match x with
    | 198 => 87
    | 261 => 105
    | 311 => 124
    | 312 => 125
    | n => n,
  t := fun x =>
    match x with
    | 21 => 21
    | 4 => 4
    | 141 => 179
    | 0 => 0
    | 196 => 217
    | 193 => 214
    | 3 => 3
    | 51 => 162
    | 198 => 220
    | 49 => 218
    | 194 => 215
    | 201 => 223
    | 226 => 236
    | 46 => 119
    | 227 => 237
    | n => n,
  g := fun x =>
    match x with
    | 5 => 2
    | n => n }
def Tryz.laysLetter_ren : Ren :=
{
  f := fun x =>
    match x with
    | 200 => 86
    | 261 => 105
    | 311 => 124
    | 312 => 125
    | n => n,
  t := fun x =>
    match x with
    | 21 => 21
    | 4 => 4
    | 51 => 162
    | 5 => 5
    | 119 => 177
    | 0 => 0
    | 141 => 179
    | 196 => 217
    | 193 => 214
    | 3 => 3
    | 198 => 220
    | 49 => 218
    | 194 => 215
    | 201 => 223
    | 226 => 236
    | 46 => 119
    | 227 => 237
    | n => n,
  g := fun x =>
    match x with
    | 7 => 0
    | 8 => 1
    | n => n }
def Tryz.laysDecode_ren : Ren :=
{
  f := fun x =>
    match x with
    | 197 => 130
    | 260 => 134
    | n => n,
  t := fun x =>
    match x with
    | 9 => 9
    | 21 => 21
    | 3 => 3
    | 4 => 4
    | 5 => 5
    | 105 => 230
    | 119 => 177
    | 0 => 0
    | 46 => 119
    | 139 => 246
    | 138 => 245
    | n => n,
  g := fun x =>
    match x with
    | 3 => 4
    | 4 => 5
    | n => n }
theorem Tryz.laysLetter : Lays.n200 Tryz.prog Tryz.laysLetter_ren :=
{ mixed := Eq.refl true, f200 := Eq.trans Tryz.func86 (congrArg some (Eq.refl (Body.n200 Tryz.laysLetter_ren))),
  f261 := Eq.trans Tryz.func105 (congrArg some (Eq.refl (Body.n261 Tryz.laysLetter_ren))),
  f311 := Eq.trans Tryz.func124 (congrArg some (Eq.refl (Body.n311 Tryz.laysLetter_ren))),
  f312 := Eq.trans Tryz.func125 (congrArg some (Eq.refl (Body.n312 Tryz.laysLetter_ren))), t0 := Tryz.underlying0,
  a0 := Tryz.isAgg0, z0 := Tryz.sizeOf0, v0 := Tryz.zeroValue0, t3 := Tryz.underlying3, a3 := Tryz.isAgg3,
  z3 := Tryz.sizeOf3, v3 := Tryz.zeroValue3, t4 := Tryz.underlying4, a4 := Tryz.isAgg4, z4 := Tryz.sizeOf4,
  v4 := Tryz.zeroValue4, t5 := Tryz.underlying5, a5 := Tryz.isAgg5, z5 := Tryz.sizeOf5, v5 := Tryz.zeroValue5,
  t21 := Tryz.underlying21, a21 := Tryz.isAgg21, z21 := Tryz.sizeOf21, v21 := Tryz.zeroValue21,
  t46 := Tryz.underlying119, a46 := Tryz.isAgg119, z46 := Tryz.sizeOf119, v46 := Tryz.zeroValue119,
  t49 := Tryz.underlying218, a49 := Tryz.isAgg218, z49 := Tryz.sizeOf218, v49 := Tryz.zeroValue218,
  t51 := Tryz.underlying162, a51 := Tryz.isAgg162, z51 := Tryz.sizeOf162, v51 := Tryz.zeroValue162,
  t119 := Tryz.underlying177, a119 := Tryz.isAgg177, z119 := Tryz.sizeOf177, t141 := Tryz.underlying179,
  a141 := Tryz.isAgg179, z141 := Tryz.sizeOf179, v141 := Tryz.zeroValue179, t193 := Tryz.underlying214,
  a193 := Tryz.isAgg214, z193 := Tryz.sizeOf214, v193 := Tryz.zeroValue214, t194 := Tryz.underlying215,
  a194 := Tryz.isAgg215, z194 := Tryz.sizeOf215, v194 := Tryz.zeroValue215, t196 := Tryz.underlying217,
  a196 := Tryz.isAgg217, z196 := Tryz.sizeOf217, v196 := Tryz.zeroValue217, t198 := Tryz.underlying220,
  a198 := Tryz.isAgg220, z198 := Tryz.sizeOf220, v198 := Tryz.zeroValue220, t201 := Tryz.underlying223,
  a201 := Tryz.isAgg223, z201 := Tryz.sizeOf223, v201 := Tryz.zeroValue223, t226 := Tryz.underlying236,
  a226 := Tryz.isAgg236, z226 := Tryz.sizeOf236, v226 := Tryz.zeroValue236, t227 := Tryz.underlying237,
  a227 := Tryz.isAgg237, z227 := Tryz.sizeOf237, v227 := Tryz.zeroValue237,
  g7 := (by kernel_rfl), g8 := (by kernel_rfl) }
theorem Tryz.laysDigit : Lays.n198 Tryz.prog Tryz.laysDigit_ren :=
{ mixed := Eq.refl true, f198 := Eq.trans Tryz.func87 (congrArg some (Eq.refl (Body.n198 Tryz.laysDigit_ren))),
  f261 := Eq.trans Tryz.func105 (congrArg some (Eq.refl (Body.n261 Tryz.laysDigit_ren))),
  f311 := Eq.trans Tryz.func124 (congrArg some (Eq.refl (Body.n311 Tryz.laysDigit_ren))),
  f312 := Eq.trans Tryz.func125 (congrArg some (Eq.refl (Body.n312 Tryz.laysDigit_ren))), t0 := Tryz.underlying0,
  a0 := Tryz.isAgg0, z0 := Tryz.sizeOf0, v0 := Tryz.zeroValue0, t3 := Tryz.underlying3, a3 := Tryz.isAgg3,
  z3 := Tryz.sizeOf3, v3 := Tryz.zeroValue3, t4 := Tryz.underlying4, a4 := Tryz.isAgg4, z4 := Tryz.sizeOf4,
  v4 := Tryz.zeroValue4, t21 := Tryz.underlying21, a21 := Tryz.isAgg21, z21 := Tryz.sizeOf21, v21 := Tryz.zeroValue21,
  t46 := Tryz.underlying119, a46 := Tryz.isAgg119, z46 := Tryz.sizeOf119, v46 := Tryz.zeroValue119,
  t49 := Tryz.underlying218, a49 := Tryz.isAgg218, z49 := Tryz.sizeOf218, v49 := Tryz.zeroValue218,
  t51 := Tryz.underlying162, a51 := Tryz.isAgg162, z51 := Tryz.sizeOf162, v51 := Tryz.zeroValue162,
  t141 := Tryz.underlying179, a141 := Tryz.isAgg179, z141 := Tryz.sizeOf179, v141 := Tryz.zeroValue179,
  t193 := Tryz.underlying214, a193 := Tryz.isAgg214, z193 := Tryz.sizeOf214, v193 := Tryz.zeroValue214,
  t194 := Tryz.underlying215, a194 := Tryz.isAgg215, z194 := Tryz.sizeOf215, v194 := Tryz.zeroValue215,
  t196 := Tryz.underlying217, a196 := Tryz.isAgg217, z196 := Tryz.sizeOf217, v196 := Tryz.zeroValue217,
  t198 := Tryz.underlying220, a198 := Tryz.isAgg220, z198 := Tryz.sizeOf220, v198 := Tryz.zeroValue220,
  t201 := Tryz.underlying223, a201 := Tryz.isAgg223, z201 := Tryz.sizeOf223, v201 := Tryz.zeroValue223,
  t226 := Tryz.underlying236, a226 := Tryz.isAgg236, z226 := Tryz.sizeOf236, v226 := Tryz.zeroValue236,
  t227 := Tryz.underlying237, a227 := Tryz.isAgg237, z227 := Tryz.sizeOf237, v227 := Tryz.zeroValue237,
  g5 := (by kernel_rfl) }
theorem Tryz.laysDecode : Lays.n197 Tryz.prog Tryz.laysDecode_ren :=
{ mixed := Eq.refl true, f197 := Eq.trans Tryz.func130 (congrArg some (Eq.refl (Body.n197 Tryz.laysDecode_ren))),
  f260 := Eq.trans Tryz.func134 (congrArg some (Eq.refl (Body.n260 Tryz.laysDecode_ren))), t0 := Tryz.underlying0,
  a0 := Tryz.isAgg0, z0 := Tryz.sizeOf0, v0 := Tryz.zeroValue0, t3 := Tryz.underlying3, a3 := Tryz.isAgg3,
  z3 := Tryz.sizeOf3, v3 := Tryz.zeroValue3, t4 := Tryz.underlying4, a4 := Tryz.isAgg4, z4 := Tryz.sizeOf4,
  v4 := Tryz.zeroValue4, t5 := Tryz.underlying5, a5 := Tryz.isAgg5, z5 := Tryz.sizeOf5, v5 := Tryz.zeroValue5,
  t9 := Tryz.underlying9, a9 := Tryz.isAgg9, z9 := Tryz.sizeOf9, v9 := Tryz.zeroValue9, t21 := Tryz.underlying21,
  a21 := Tryz.isAgg21, z21 := Tryz.sizeOf21, v21 := Tryz.zeroValue21, t46 := Tryz.underlying119, a46 := Tryz.isAgg119,
  z46 := Tryz.sizeOf119, v46 := Tryz.zeroValue119, t105 := Tryz.underlying230, a105 := Tryz.isAgg230,
  z105 := Tryz.sizeOf230, v105 := Tryz.zeroValue230, t119 := Tryz.underlying177, a119 := Tryz.isAgg177,
  z119 := Tryz.sizeOf177, t138 := Tryz.underlying245, a138 := Tryz.isAgg245, z138 := Tryz.sizeOf245,
  v138 := Tryz.zeroValue245, t139 := Tryz.underlying246, a139 := Tryz.isAgg246, z139 := Tryz.sizeOf246,
  v139 := Tryz.zeroValue246, g3 := (by kernel_rfl),
  g4 := (by kernel_rfl) }
end Go.Proofs
set_option linter.unusedVariables false
set_option maxRecDepth 100000
namespace Go.Ab
open Go Go.Lib
variable {P : Program} {B : Nat} {σ : Loc} {h : Nat → Option Obj} {H : Heap} {w W : World}
theorem cell_base (k : @Known (baseOf W) P B σ h H w) {a : Addr} {v : Value} (hc : W.cell? a = some v) : w.cell? a = some v := by
  letI := baseOf W
  have hlt : a.block < W.heap.size := by
    rcases Nat.lt_or_ge a.block W.heap.size with h | h
    · exact h
    · unfold World.cell? at hc
      rw [Array.getElem?_eq_none h] at hc; cases hc
  have e : w.heap[a.block]? = W.heap[a.block]? := k.base _ (Nat.lt_of_lt_of_le hlt k.lo)
  unfold World.cell? at *
  rw [e]; exact hc
theorem zHx (k : @Known (baseOf W) P B σ h H w) {n : String} {v : Array Value} (hc : W.var? P n = some v) : w.var? P n = some v := by
  letI := baseOf W
  unfold World.var? at *
  cases hg : P.globalNamed n with
  | none => rw [hg] at hc; cases hc
  | some g =>
    rw [hg] at hc
    have hlt : g < W.heap.size := by
      rcases Nat.lt_or_ge g W.heap.size with h | h
      · exact h
      · have hc : (match W.heap[g]? with | some (.cells cs _ _) => some cs | _ => none) = some v := hc
        rw [Array.getElem?_eq_none h] at hc; cases hc
    have e : w.heap[g]? = W.heap[g]? := k.base _ (Nat.lt_of_lt_of_le hlt k.lo)
    show (match w.heap[g]? with | some (.cells cs _ _) => some cs | _ => none) = some v
    rw [e]; exact hc
theorem zXD (k : @Known (baseOf W) P B σ h H w) {n : String} {kd : IntKind} {zs : List Int} (hT : TabIs P W n kd zs) : TabIs P w n kd zs := zHx k hT
theorem zfu (k : @Known (baseOf W) P B σ h H w) {g : Nat} {T : RTab} (hV : RVar g T W) : RVar g T w := by
  obtain ⟨Tb, oT, h1, a16, a32, R16, o16, c16, R32, o32, c32, h2, h3, h4, h5, h6, h7, h8, h9⟩ := hV
  refine ⟨Tb, oT, cell_base k h1, a16, a32, R16, o16, c16, R32, o32, c32, cell_base k h2, cell_base k h3, cell_base k h4, h5, h6, fun i hi => ?_, fun i hi => ?_, h9⟩
  · obtain ⟨x, y, z⟩ := h7 i hi
    exact ⟨cell_base k x, cell_base k y, cell_base k z⟩
  · obtain ⟨x, y, z⟩ := h8 i hi
    exact ⟨cell_base k x, cell_base k y, cell_base k z⟩
theorem good_of_calls {f : FuncId} {args : List Value} {v : Value} (ha : args.all flat2 = true) (hv : flat3 v = true) (hf : ∃ fn c, P.funcs[f]? = some fn ∧ fn.body = some c)
    (hc : ∀ (B : Nat) (σ : Loc) (h : Nat → Option Obj) (w : World), @Known (baseOf W) P B σ h H w → Calls P f args.toArray w fun e w' => e = .returned v ∧ RowKit.Below w.heap.size w w') : @OrcGood (baseOf W) P f args H v := by
  intro B σ h w args' k hva
  have e : args' = args.toArray := Array.ext' (by rw [hva.flat2 ha])
  subst e
  refine ⟨hf, CallsIn.mono (callsIn_wide.2 (hc B σ h w k)) ?_⟩
  rintro e w' ⟨rfl, hb⟩
  exact ⟨v, rfl, ztD hv, hb⟩
end Go.Ab
namespace Seal
open Go Go.Ab Go.Lib Go.Proofs
variable {W : World}
theorem zmw (hT : TabIs Tryz.prog W "unicode.properties" .u8 propertiesTab) (hV : RVar 1 letterT W) {r : Int} (h1 : -2147483648 ≤ r) (h2 : r ≤ 2147483647) (H : Heap) : @OrcGood (baseOf W) Tryz.prog 86 [.int .i32 r] H (.bool (isLetterU r)) :=
  good_of_calls rfl rfl ⟨_, _, Tryz.func86, rfl⟩ fun B σ h w k => Any.unicode_IsLetter_all Tryz.laysLetter (by kernel_rfl) r w h1 h2 (zXD k hT) (zfu k hV)
theorem zFy (hV : RVar 2 digitT W) {r : Int} (h1 : -2147483648 ≤ r) (h2 : r ≤ 2147483647) (H : Heap) : @OrcGood (baseOf W) Tryz.prog 87 [.int .i32 r] H (.bool (isDigitU r)) :=
  good_of_calls rfl rfl ⟨_, _, Tryz.func87, rfl⟩ fun B σ h w k => Any.unicode_IsDigit_all Tryz.laysDigit r w h1 h2 (zfu k hV)
end Seal
set_option linter.unusedVariables false
namespace Seal
open Go Go.Lib Go.Proofs Go.RowKit
set_option maxRecDepth 1000000 in
theorem zqB (s : ByteArray) (a c : Int) (hc : c ≠ 65533) (w : World) : Calls Tryz.prog 116 #[.string s, .int .i64 a, .int .i32 c] w fun e w' => e = .returned (.bool false) ∧ w' = w := by
  have h : (c != 65533) = true := by simp [hc]
  go_enter Tryz.func116, Tryz.ntmps116
  go_wp2
  go_ret
  exact ⟨rfl, rfl⟩
set_option maxRecDepth 1000000 in
theorem zGy (s : ByteArray) (a : Nat) (ha : a ≤ s.size) (w : World) (hT : Utf8Tabs 4 5 w) : Calls Tryz.prog 116 #[.string s, .int .i64 a, .int .i32 65533] w fun e w' => e = .returned (.bool (decide ((decodeGo (s.extract a s.size)).2 = 1))) ∧ Below w.heap.size w w' := by
  have cD : Calls Tryz.prog 130 #[.string (s.extract a s.size)] w _ := Any.utf8_DecodeRuneInString Tryz.laysDecode (s.extract a s.size) w hT
  have h1 : (0 : Int) ≤ a := by omega
  have h2 : (a : Int) ≤ s.size := by omega
  go_enter Tryz.func116, Tryz.ntmps116
  go_wp2_with fail
  refine cD.mono fun e w1 ⟨he, hb⟩ => ?_
  subst he
  go_wp2_with fail
  go_ret
  refine ⟨?_, hb⟩
  show Ending.returned (.bool (((decodeGo (s.extract a s.size)).2 : Int) == 1)) = _
  have e : (((decodeGo (s.extract a s.size)).2 : Int) == 1) = decide ((decodeGo (s.extract a s.size)).2 = 1) := by
    rw [Bool.eq_iff_iff]
    simp
    omega
  rw [e]
set_option maxRecDepth 1000000 in
theorem zhr (s : ByteArray) (a : Nat) (ha : a ≤ s.size) (c : Int) (w : World) (hT : Utf8Tabs 4 5 w) : Calls Tryz.prog 116 #[.string s, .int .i64 a, .int .i32 c] w fun e w' => e = .returned (.bool (decide (c = 65533 ∧ (decodeGo (s.extract a s.size)).2 = 1))) ∧ Below w.heap.size w w' := by
  by_cases hc : c = 65533
  · subst hc
    refine (zGy s a ha w hT).mono fun e w' ⟨he, hb⟩ => ⟨?_, hb⟩
    rw [he]; simp
  · refine (zqB s a c hc w).mono fun e w' ⟨he, hw⟩ => ⟨?_, hw ▸ Below.refl _ _⟩
    rw [he]; simp [hc]
def partF (c : Int) (first : Bool) : Bool := isLetterU c || !first && (isDigitU c || c == 45 || c == 95 || c == 46)
set_option maxRecDepth 1000000 in
theorem zYD (c : Int) (first : Bool) (h1 : -2147483648 ≤ c) (h2 : c ≤ 2147483647) (w : World) (hT : TabIs Tryz.prog w "unicode.properties" .u8 propertiesTab) (hL : RVar 1 letterT w) (hD : ∀ w', Below w.heap.size w w' → RVar 2 digitT w') :
    Calls Tryz.prog 117 #[.int .i32 c, .bool first] w fun e w' => e = .returned (.bool (partF c first)) ∧ Below w.heap.size w w' := by
  have cL : Calls Tryz.prog 86 #[.int .i32 c] w _ := Any.unicode_IsLetter_all Tryz.laysLetter (by kernel_rfl) c w h1 h2 hT hL
  go_enter Tryz.func117, Tryz.ntmps117
  go_wp2_with fail
  refine cL.mono fun e w1 ⟨he, hb⟩ => ?_
  subst he
  have cD : Calls Tryz.prog 87 #[.int .i32 c] w1 _ := Any.unicode_IsDigit_all Tryz.laysDigit c w1 h1 h2 (hD w1 hb)
  cases hl : isLetterU c with
  | true =>
    go_wp2_with fail
    go_ret
    exact ⟨by simp [partF, hl], hb⟩
  | false =>
    cases first with
    | true =>
      go_wp2_with fail
      go_ret
      exact ⟨by simp [partF, hl], hb⟩
    | false =>
      go_wp2_with fail
      refine cD.mono fun e w2 ⟨he, hb2⟩ => ?_
      subst he
      have hb3 : Below w.heap.size w w2 := hb.trans (hb2.mono hb.size)
      cases hd : isDigitU c with
      | true =>
        go_wp2_with fail
        go_ret
        exact ⟨by simp [partF, hl, hd], hb3⟩
      | false =>
        by_cases e1 : c = 45
        · subst e1
          go_wp2_with fail
          go_ret
          exact ⟨by simp [partF], hb3⟩
        by_cases e2 : c = 95
        · subst e2
          go_wp2_with fail
          go_ret
          exact ⟨by simp [partF], hb3⟩
        have b1 : (c == 45) = false := by simpa using e1
        have b2 : (c == 95) = false := by simpa using e2
        go_wp2_with fail
        go_ret
        exact ⟨by simp [partF, hl, hd, b1, b2], hb3⟩
end Seal
set_option linter.unusedVariables false
namespace Seal
open Go Go.Lib Go.Proofs Go.RowKit
structure Tabs (w : World) : Prop where
  u : Utf8Tabs 4 5 w
  p : TabIs Tryz.prog w "unicode.properties" .u8 propertiesTab
  l : RVar 1 letterT w
  d : RVar 2 digitT w
theorem Tabs.keep {w w' : World} (h : Tabs w) (hc : ∀ a v, w.cell? a = some v → w'.cell? a = some v) (hv : ∀ n v, w.var? Tryz.prog n = some v → w'.var? Tryz.prog n = some v) : Tabs w' := by
  have rv : ∀ {g : Nat} {T : RTab}, RVar g T w → RVar g T w' := by
    rintro g T ⟨Tb, oT, h1, a16, a32, R16, o16, c16, R32, o32, c32, h2, h3, h4, h5, h6, h7, h8, h9⟩
    refine ⟨Tb, oT, hc _ _ h1, a16, a32, R16, o16, c16, R32, o32, c32, hc _ _ h2, hc _ _ h3, hc _ _ h4, h5, h6, fun i hi => ?_, fun i hi => ?_, h9⟩
    · obtain ⟨x, y, z⟩ := h7 i hi
      exact ⟨hc _ _ x, hc _ _ y, hc _ _ z⟩
    · obtain ⟨x, y, z⟩ := h8 i hi
      exact ⟨hc _ _ x, hc _ _ y, hc _ _ z⟩
  exact ⟨⟨fun c h1 => hc _ _ (h.u.1 c h1), fun i hi => ⟨hc _ _ (h.u.2 i hi).1, hc _ _ (h.u.2 i hi).2⟩⟩, hv _ _ h.p, rv h.l, rv h.d⟩
theorem Tabs.below {w w' : World} (h : Tabs w) (hb : Below w.heap.size w w') : Tabs w' := by
  refine h.keep (fun a v ha => ?_) (fun n v hn => ?_)
  · have hlt : a.block < w.heap.size := by
      rcases Nat.lt_or_ge a.block w.heap.size with h | h
      · exact h
      · unfold World.cell? at ha
        rw [Array.getElem?_eq_none h] at ha; cases ha
    rw [hb.cell hlt]; exact ha
  · unfold World.var? at *
    cases hg : Tryz.prog.globalNamed n with
    | none => rw [hg] at hn; cases hn
    | some g =>
      rw [hg] at hn
      have hlt : g < w.heap.size := by
        rcases Nat.lt_or_ge g w.heap.size with h | h
        · exact h
        · have hn : (match w.heap[g]? with | some (.cells cs _ _) => some cs | _ => none) = some v := hn
          rw [Array.getElem?_eq_none h] at hn; cases hn
      show (match w'.heap[g]? with | some (.cells cs _ _) => some cs | _ => none) = some v
      rw [hb.block g hlt]; exact hn
def finF (n : Int) : Int := if n < 1 ∨ n > 24 then 41 else 0
def brF (s : ByteArray) (pos : Nat) (c : Int) : Bool := decide (c = 65533 ∧ (decodeGo (s.extract pos s.size)).2 = 1)
def badF (s : ByteArray) (pos : Nat) (n : Int) : Bool := brF s pos (Utf8.decode s pos).1 || !partF (Utf8.decode s pos).1 (n == 0)
def nmF (s : ByteArray) : Nat → Nat → Int → Int
  | 0, pos, n => finF n
  | b + 1, pos, n => if pos < s.size then (if badF s pos n then 41 else nmF s b (pos + (Utf8.decode s pos).2) (n + 1)) else finF n
theorem zqI (s : ByteArray) (b pos : Nat) (n : Int) (h : ¬ pos < s.size) : nmF s b pos n = finF n := by
  cases b with
  | zero => rfl
  | succ b => simp [nmF, h]
theorem width_pos (s : ByteArray) (pos : Nat) (h : pos < s.size) : 1 ≤ (Utf8.decode s pos).2 := by
  by_cases ha : (s[pos]'h).toNat < 128
  · rw [decode_ascii s pos h ha]
    exact Nat.le_refl _
  · exact (decode_high s pos h (by omega)).2
theorem zgu {w wr : World} {s : ByteArray} {p : Nat} (h : Below w.heap.size w wr) : Below w.heap.size w (wr.iterAt w.heap.size s p) := by
  refine h.trans ⟨rfl, rfl, rfl, ?_, fun k hk => ?_⟩
  · simp [World.iterAt]
  · simp [World.iterAt, Nat.ne_of_gt hk]
theorem zrB {k : Nat} {wr : World} {s : ByteArray} {p q : Nat} (h : wr.heap[k]? = some (.stringIter s q)) : (wr.iterAt k s p).heap[k]? = some (.stringIter s p) := by
  have := (Array.getElem?_eq_some_iff.1 h).1
  simp [World.iterAt, this]
set_option maxRecDepth 1000000 in
set_option maxHeartbeats 4000000 in
theorem zZD (s : ByteArray) (hs : s.size < 4611686018427387904) (w : World) (hT : Tabs w) : Calls Tryz.prog 101 #[.string s] w fun e w' => e = .returned (.int .i64 (nmF s s.size 0 0)) ∧ Below w.heap.size w w' := by
  go_enter Tryz.func101, Tryz.ntmps101
  go_wp2_with fail
  go_loopw [3] (fun n w' => ∃ (pos b : Nat) (k : Int), w'.heap[w.heap.size]? = some (.stringIter s pos) ∧ Below w.heap.size w w' ∧ n = .int .i64 k ∧ nmF s b pos k = nmF s s.size 0 0 ∧ s.size ≤ pos + b ∧ 0 ≤ k ∧ k ≤ pos) (fun _ w' => s.size - w'.iterPos w.heap.size)
  case atStart => exact ⟨0, s.size, 0, World.iter_heap w s 0, Below.alloc (Below.refl _ _) (Nat.le_refl _) _, rfl, rfl, by omega, by omega, by omega⟩
  case round =>
    obtain ⟨pos, b, k, hat, hbl, rfl, hc, hb, hk0, hk1⟩ := hrel
    by_cases hp : pos < s.size
    · have hnx : ∀ ty, (Instr.next (.pointer (some ⟨w.heap.size, 0, none⟩)) true ty).run Tryz.prog wr = _ := fun ty => run_next_any_at wr w.heap.size s pos ty hat hp
      have hwd := width_pos s pos hp
      have hbl2 : Below w.heap.size w (wr.iterAt w.heap.size s (pos + (Utf8.decode s pos).2)) := zgu hbl
      have hat2 : (wr.iterAt w.heap.size s (pos + (Utf8.decode s pos).2)).heap[w.heap.size]? = some (.stringIter s (pos + (Utf8.decode s pos).2)) := zrB hat
      have hle := decode_le s pos
      generalize wr.iterAt w.heap.size s (pos + (Utf8.decode s pos).2) = w1 at *
      have cB : Calls Tryz.prog 116 #[.string s, .int .i64 pos, .int .i32 (Utf8.decode s pos).1] w1 fun e w' => e = .returned (.bool (brF s pos (Utf8.decode s pos).1)) ∧ Below w1.heap.size w1 w' := zhr s pos (Nat.le_of_lt hp) (Utf8.decode s pos).1 w1 (hT.below hbl2).u
      have hlt : w.heap.size < w1.heap.size := (Array.getElem?_eq_some_iff.1 hat2).1
      obtain ⟨br, hbr⟩ : ∃ br, brF s pos (Utf8.decode s pos).1 = br := ⟨_, rfl⟩
      rw [hbr] at cB
      go_wp2_with fail
      refine cB.mono fun e w2 ⟨he, hb2⟩ => ?_
      subst he
      have hbl3 : Below w.heap.size w w2 := hbl2.trans (hb2.mono hbl2.size)
      have hat3 : w2.heap[w.heap.size]? = some (.stringIter s (pos + (Utf8.decode s pos).2)) := by rw [hb2.block _ hlt]; exact hat2
      clear hat2 hbl2 hb2 hbl
      cases br with
      | true =>
        go_wp2_with fail
        go_ret
        refine ⟨?_, hbl3⟩
        rw [← hc]
        cases b with
        | zero => omega
        | succ b => simp [nmF, hp, badF, hbr]
      | false =>
        have hT3 := hT.below hbl3
        have cP := zYD (Utf8.decode s pos).1 (k == 0) (by omega) (by omega) w2 hT3.p hT3.l (fun w' h' => (hT3.below h').d)
        obtain ⟨pr, hpr⟩ : ∃ pr, partF (Utf8.decode s pos).1 (k == 0) = pr := ⟨_, rfl⟩
        rw [hpr] at cP
        go_wp2_with fail
        refine cP.mono fun e w3 ⟨he, hb3⟩ => ?_
        subst he
        have hlt2 : w.heap.size < w2.heap.size := (Array.getElem?_eq_some_iff.1 hat3).1
        have hbl4 : Below w.heap.size w w3 := hbl3.trans (hb3.mono hbl3.size)
        have hat4 : w3.heap[w.heap.size]? = some (.stringIter s (pos + (Utf8.decode s pos).2)) := by rw [hb3.block _ hlt2]; exact hat3
        clear hat3 hbl3 hb3
        cases pr with
        | false =>
          go_wp2_with fail
          go_ret
          refine ⟨?_, hbl4⟩
          rw [← hc]
          cases b with
          | zero => omega
          | succ b => simp [nmF, hp, badF, hpr]
        | true =>
          have hk2 : k + 1 < 9223372036854775808 := by omega
          go_wp2_with fail
          go_roundw
          case rel =>
            cases b with
            | zero => omega
            | succ b =>
              refine ⟨pos + (Utf8.decode s pos).2, b, k + 1, hat4, hbl4, ?_, ?_, by omega, by omega, by omega⟩
              · rfl
              · rw [← hc]; simp [nmF, hp, badF, hbr, hpr]
          case measure =>
            simp only [World.iterPos, hat, hat4]
            omega
    · have hnx : ∀ ty, (Instr.next (.pointer (some ⟨w.heap.size, 0, none⟩)) true ty).run Tryz.prog wr = _ := fun ty => run_next_end_at wr w.heap.size s pos ty hat hp
      rw [zqI s b pos k hp] at hc
      by_cases h1 : k < 1
      · go_wp2_with fail
        go_ret
        exact ⟨by rw [← hc]; simp [finF, h1], hbl⟩
      by_cases h2 : k > 24
      · go_wp2_with fail
        go_ret
        exact ⟨by rw [← hc]; simp [finF, h2], hbl⟩
      go_wp2_with fail
      go_ret
      exact ⟨by rw [← hc]; simp [finF, h1, h2], hbl⟩
end Seal
set_option linter.unusedVariables false
namespace Seal
open Go Go.Ab Go.Lib Go.Proofs
variable {W : World}
theorem zhu {B : Nat} {σ : Ab.Loc} {h : Nat → Option Ab.Obj} {H : Ab.Heap} {w : World} (k : @Known (baseOf W) Tryz.prog B σ h H w) (hT : Tabs W) : Tabs w := hT.keep (fun a v ha => cell_base k ha) (fun n v hn => zHx k hn)
theorem zsB (hT : Tabs W) {s : ByteArray} (hs : s.size < 4611686018427387904) (H : Ab.Heap) : @OrcGood (baseOf W) Tryz.prog 101 [.string s] H (.int .i64 (nmF s s.size 0 0)) :=
  good_of_calls rfl rfl ⟨_, _, Tryz.func101, rfl⟩ fun B σ h w k => zZD s hs w (zhu k hT)
end Seal
set_option linter.unusedVariables false
set_option maxRecDepth 100000
namespace Seal
open Go Go.Lib Go.Shelf Go.Proofs Go.Proofs.YtheklmekepeblaaGreatDoor
variable {W : World}
theorem xL : RExtra Tryz.prog Tryz.laysLetter_ren := ⟨by kernel_rfl, by kernel_rfl, by kernel_rfl, by kernel_rfl, by kernel_rfl, by kernel_rfl, by kernel_rfl, by kernel_rfl⟩
theorem xD : RExtra Tryz.prog Tryz.laysDigit_ren := ⟨by kernel_rfl, by kernel_rfl, by kernel_rfl, by kernel_rfl, by kernel_rfl, by kernel_rfl, by kernel_rfl, by kernel_rfl⟩
theorem xU : U8Extra Tryz.prog Tryz.laysDecode_ren := by constructor <;> kernel_rfl
theorem ztB : (Rows.laid_unicode_utf8_acceptRanges : DataW Unit) = acceptData := by kernel_rfl
theorem ztG : (Rows.laid_unicode_properties : DataW Unit) = tabData .u8 propertiesTab := by kernel_rfl
theorem ziu {P : Program} {name : String} {k : IntKind} {zs : List Int} {g : Nat} {t e : TypeId} {n : Nat}
    (hg : P.globalNamed name = some g) (hty : (P.globals[g]?).map (·.type) = some t) (ht : P.underlying t = some (.array n e)) (he : P.underlying e = some (.int k)) (hce : P.cellsOf e = 1) (hct : P.cellsOf t = n)
    (h : VarReads P W name (tabData k zs)) : TabIs P W name k zs := by
  obtain ⟨g', t', cs, fuel, p, hg', ht', hvar, hd⟩ := h
  obtain rfl := Option.some.inj (hg.symm.trans hg')
  obtain rfl := Option.some.inj (hty.symm.trans ht')
  unfold TabIs
  rw [hvar, ← cells_of_tab ht he hce hct hd]
theorem zCs (h1 : VarReads Tryz.prog W "unicode/utf8.acceptRanges" Rows.laid_unicode_utf8_acceptRanges) (h2 : VarReads Tryz.prog W "unicode.properties" Rows.laid_unicode_properties)
    (h3 : VarReads Tryz.prog W "unicode.Digit" Rows.laid_unicode_Digit) (h4 : VarReads Tryz.prog W "unicode.Letter" Rows.laid_unicode_Letter) (h5 : VarReads Tryz.prog W "unicode/utf8.first" Rows.laid_unicode_utf8_first) : Tabs W := by
  refine ⟨?_, ?_, ?_, ?_⟩
  · rw [ztB] at h1
    have h5 : VarReads Tryz.prog W "unicode/utf8.first" Pinned.utf8First := h5
    rw [Pinned.utf8First_eq] at h5
    exact utf8Tabs_of_readsT (ρ := Tryz.laysDecode_ren) { Tryz.laysDecode with } xU h5 h1
  · rw [ztG] at h2
    exact ziu (g := 0) (t := 177) (e := 5) (n := 256) (by kernel_rfl) (by kernel_rfl) (by kernel_rfl) (by kernel_rfl) (by kernel_rfl) (by kernel_rfl) h2
  · have h4 : VarReads Tryz.prog W "unicode.Letter" Pinned.letter := h4
    rw [Pinned.letter_eq] at h4
    exact rvar_of_reads (ρ := Tryz.laysLetter_ren) { Tryz.laysLetter with } xL (by kernel_rfl) (by kernel_rfl) h4
  · have h3 : VarReads Tryz.prog W "unicode.Digit" Pinned.digit := h3
    rw [Pinned.digit_eq] at h3
    exact rvar_of_reads (ρ := Tryz.laysDigit_ren) { Tryz.laysDigit with } xD (by kernel_rfl) (by kernel_rfl) h3
end Seal
set_option linter.unusedVariables false
set_option maxRecDepth 100000
namespace Seal
open Go Go.Lib Go.Shelf Go.Proofs
variable {W : World}
def zaE (args : List Value) : Option Value := match args with
  | [.string s] => cond (Nat.blt s.size 4611686018427387904) (some (.int .i64 (nmF s s.size 0 0))) none
  | _ => none
def zHy (F : Int → Bool) (args : List Value) : Option Value := match args with
  | [.int .i32 r] => cond (decide (-2147483648 ≤ r) && decide (r ≤ 2147483647)) (some (.bool (F r))) none
  | _ => none
@[reducible] def zcK : Ab.Orc := ⟨fun f args _ => cond (Nat.beq f 101) (zaE args) (cond (Nat.beq f 86) (zHy isLetterU args) (cond (Nat.beq f 87) (zHy isDigitU args) none))⟩
theorem zIy {args : List Value} {v : Value} (h : zaE args = some v) : ∃ s, args = [.string s] ∧ s.size < 4611686018427387904 ∧ v = .int .i64 (nmF s s.size 0 0) := by
  unfold zaE at h
  split at h
  · rename_i s
    cases hb : Nat.blt s.size 4611686018427387904 with
    | false => rw [hb] at h; cases h
    | true =>
      rw [hb] at h
      cases h
      exact ⟨s, rfl, by rw [Ab.blt_eq] at hb; exact of_decide_eq_true hb, rfl⟩
  · cases h
theorem zir {F : Int → Bool} {args : List Value} {v : Value} (h : zHy F args = some v) : ∃ r, args = [.int .i32 r] ∧ -2147483648 ≤ r ∧ r ≤ 2147483647 ∧ v = .bool (F r) := by
  unfold zHy at h
  split at h
  · rename_i r
    cases hb : decide (-2147483648 ≤ r) && decide (r ≤ 2147483647) with
    | false => rw [hb] at h; cases h
    | true =>
      rw [hb] at h
      cases h
      rw [Bool.and_eq_true] at hb
      exact ⟨r, rfl, of_decide_eq_true hb.1, of_decide_eq_true hb.2, rfl⟩
  · cases h
theorem zuG (hT : Tabs W) : @Ab.OrcOk (Ab.baseOf W) zcK Tryz.prog := by
  intro f args H v h
  have h : cond (Nat.beq f 101) (zaE args) (cond (Nat.beq f 86) (zHy isLetterU args) (cond (Nat.beq f 87) (zHy isDigitU args) none)) = some v := h
  cases h1 : Nat.beq f 101 with
  | true =>
    rw [h1] at h
    obtain rfl := Nat.eq_of_beq_eq_true h1
    obtain ⟨s, rfl, hs, rfl⟩ := zIy h
    exact zsB hT hs H
  | false =>
  rw [h1] at h
  cases h2 : Nat.beq f 86 with
  | true =>
    rw [h2] at h
    obtain rfl := Nat.eq_of_beq_eq_true h2
    obtain ⟨r, rfl, a, b, rfl⟩ := zir h
    exact zmw hT.p hT.l a b H
  | false =>
  rw [h2] at h
  cases h3 : Nat.beq f 87 with
  | true =>
    rw [h3] at h
    obtain rfl := Nat.eq_of_beq_eq_true h3
    obtain ⟨r, rfl, a, b, rfl⟩ := zir h
    exact zFy hT.d a b H
  | false => rw [h3] at h; cases h
theorem good : Ab.goodB Tryz.prog = true := by kernel_rfl
end Seal
namespace Go.Proofs
open Go.RowKit Go.Shelf Go.Lib
set_option maxRecDepth 100000
def Tryz.laysLower_ren : Ren :=
{ f := fun x =>
    match x with
    | 204 => 73
    | 262 => 89
    | 274 => 126
    | 275 => 127
    | 313 => 106
    | n => n,
  t := fun x =>
    match x with
    | 46 => 119
    | 51 => 162
    | 160 => 225
    | 162 => 182
    | 203 => 180
    | 206 => 239
    | 208 => 241
    | n => n,
  g := fun x =>
    match x with
    | 13 => 3
    | n => n }
theorem Tryz.laysLower : Lays.n204 Tryz.prog Tryz.laysLower_ren :=
{ mixed := Eq.refl true,
  f204 := Eq.trans Tryz.func73 (congrArg some (Eq.refl (Body.n204 Tryz.laysLower_ren))),
  f262 := Eq.trans Tryz.func89 (congrArg some (Eq.refl (Body.n262 Tryz.laysLower_ren))),
  f274 := Eq.trans Tryz.func126 (congrArg some (Eq.refl (Body.n274 Tryz.laysLower_ren))),
  f275 := Eq.trans Tryz.func127 (congrArg some (Eq.refl (Body.n275 Tryz.laysLower_ren))),
  f313 := Eq.trans Tryz.func106 (congrArg some (Eq.refl (Body.n313 Tryz.laysLower_ren))),
  t0 := Tryz.underlying0,
  a0 := Tryz.isAgg0,
  z0 := Tryz.sizeOf0,
  v0 := Tryz.zeroValue0,
  t3 := Tryz.underlying3,
  a3 := Tryz.isAgg3,
  z3 := Tryz.sizeOf3,
  v3 := Tryz.zeroValue3,
  t4 := Tryz.underlying4,
  a4 := Tryz.isAgg4,
  z4 := Tryz.sizeOf4,
  v4 := Tryz.zeroValue4,
  t21 := Tryz.underlying21,
  a21 := Tryz.isAgg21,
  z21 := Tryz.sizeOf21,
  v21 := Tryz.zeroValue21,
  t46 := Tryz.underlying119,
  a46 := Tryz.isAgg119,
  z46 := Tryz.sizeOf119,
  v46 := Tryz.zeroValue119,
  t51 := Tryz.underlying162,
  a51 := Tryz.isAgg162,
  z51 := Tryz.sizeOf162,
  v51 := Tryz.zeroValue162,
  t160 := Tryz.underlying225,
  a160 := Tryz.isAgg225,
  z160 := Tryz.sizeOf225,
  v160 := Tryz.zeroValue225,
  t162 := Tryz.underlying182,
  a162 := Tryz.isAgg182,
  z162 := Tryz.sizeOf182,
  v162 := Tryz.zeroValue182,
  t203 := Tryz.underlying180,
  a203 := Tryz.isAgg180,
  z203 := Tryz.sizeOf180,
  v203 := Tryz.zeroValue180,
  t206 := Tryz.underlying239,
  a206 := Tryz.isAgg239,
  z206 := Tryz.sizeOf239,
  v206 := Tryz.zeroValue239,
  t208 := Tryz.underlying241,
  a208 := Tryz.isAgg241,
  z208 := Tryz.sizeOf241,
  v208 := Tryz.zeroValue241,
  g13 := by kernel_rfl }
def Tryz.laysWB_ren : Ren :=
{ f := fun x =>
    match x with
    | 167 => 118
    | 168 => 119
    | 240 => 131
    | 242 => 132
    | 276 => 135
    | 278 => 136
    | n => n,
  t := fun x =>
    match x with
    | 37 => 22
    | 46 => 119
    | 51 => 162
    | 70 => 199
    | 72 => 201
    | 75 => 203
    | 80 => 207
    | 164 => 242
    | n => n,
  g := fun x =>
    match x with
    | n => n }
theorem Tryz.laysWB : Lays.n167 Tryz.prog Tryz.laysWB_ren :=
{ mixed := Eq.refl true,
  f167 := Eq.trans Tryz.func118 (congrArg some (Eq.refl (Body.n167 Tryz.laysWB_ren))),
  f240 := Eq.trans Tryz.func131 (congrArg some (Eq.refl (Body.n240 Tryz.laysWB_ren))),
  f276 := Eq.trans Tryz.func135 (congrArg some (Eq.refl (Body.n276 Tryz.laysWB_ren))),
  t0 := Tryz.underlying0,
  a0 := Tryz.isAgg0,
  z0 := Tryz.sizeOf0,
  v0 := Tryz.zeroValue0,
  t4 := Tryz.underlying4,
  a4 := Tryz.isAgg4,
  z4 := Tryz.sizeOf4,
  v4 := Tryz.zeroValue4,
  t5 := Tryz.underlying5,
  a5 := Tryz.isAgg5,
  z5 := Tryz.sizeOf5,
  v5 := Tryz.zeroValue5,
  t9 := Tryz.underlying9,
  a9 := Tryz.isAgg9,
  z9 := Tryz.sizeOf9,
  v9 := Tryz.zeroValue9,
  t20 := Tryz.underlying20,
  a20 := Tryz.isAgg20,
  z20 := Tryz.sizeOf20,
  v20 := Tryz.zeroValue20,
  t37 := Tryz.underlying22,
  a37 := Tryz.isAgg22,
  z37 := Tryz.sizeOf22,
  v37 := Tryz.zeroValue22,
  t70 := Tryz.underlying199,
  a70 := Tryz.isAgg199,
  z70 := Tryz.sizeOf199,
  v70 := Tryz.zeroValue199,
  t72 := Tryz.underlying201,
  a72 := Tryz.isAgg201,
  z72 := Tryz.sizeOf201,
  v72 := Tryz.zeroValue201,
  t75 := Tryz.underlying203,
  a75 := Tryz.isAgg203,
  z75 := Tryz.sizeOf203,
  v75 := Tryz.zeroValue203,
  t164 := Tryz.underlying242,
  a164 := Tryz.isAgg242,
  z164 := Tryz.sizeOf242,
  v164 := Tryz.zeroValue242 }
def Tryz.laysWR_ren : Ren :=
{ f := fun x =>
    match x with
    | 167 => 118
    | 168 => 119
    | 240 => 131
    | 242 => 132
    | 276 => 135
    | 278 => 136
    | n => n,
  t := fun x =>
    match x with
    | 37 => 22
    | 46 => 119
    | 51 => 162
    | 70 => 199
    | 72 => 201
    | 75 => 203
    | 80 => 207
    | 164 => 242
    | n => n,
  g := fun x =>
    match x with
    | n => n }
theorem Tryz.laysWR : Lays.n168 Tryz.prog Tryz.laysWR_ren :=
{ mixed := Eq.refl true,
  f168 := Eq.trans Tryz.func119 (congrArg some (Eq.refl (Body.n168 Tryz.laysWR_ren))),
  f240 := Eq.trans Tryz.func131 (congrArg some (Eq.refl (Body.n240 Tryz.laysWR_ren))),
  f242 := Eq.trans Tryz.func132 (congrArg some (Eq.refl (Body.n242 Tryz.laysWR_ren))),
  f276 := Eq.trans Tryz.func135 (congrArg some (Eq.refl (Body.n276 Tryz.laysWR_ren))),
  f278 := Eq.trans Tryz.func136 (congrArg some (Eq.refl (Body.n278 Tryz.laysWR_ren))),
  t0 := Tryz.underlying0,
  a0 := Tryz.isAgg0,
  z0 := Tryz.sizeOf0,
  v0 := Tryz.zeroValue0,
  t3 := Tryz.underlying3,
  a3 := Tryz.isAgg3,
  z3 := Tryz.sizeOf3,
  v3 := Tryz.zeroValue3,
  t4 := Tryz.underlying4,
  a4 := Tryz.isAgg4,
  z4 := Tryz.sizeOf4,
  v4 := Tryz.zeroValue4,
  t5 := Tryz.underlying5,
  a5 := Tryz.isAgg5,
  z5 := Tryz.sizeOf5,
  v5 := Tryz.zeroValue5,
  t9 := Tryz.underlying9,
  a9 := Tryz.isAgg9,
  z9 := Tryz.sizeOf9,
  v9 := Tryz.zeroValue9,
  t20 := Tryz.underlying20,
  a20 := Tryz.isAgg20,
  z20 := Tryz.sizeOf20,
  v20 := Tryz.zeroValue20,
  t21 := Tryz.underlying21,
  a21 := Tryz.isAgg21,
  z21 := Tryz.sizeOf21,
  v21 := Tryz.zeroValue21,
  t37 := Tryz.underlying22,
  a37 := Tryz.isAgg22,
  z37 := Tryz.sizeOf22,
  v37 := Tryz.zeroValue22,
  t46 := Tryz.underlying119,
  a46 := Tryz.isAgg119,
  z46 := Tryz.sizeOf119,
  v46 := Tryz.zeroValue119,
  t51 := Tryz.underlying162,
  a51 := Tryz.isAgg162,
  z51 := Tryz.sizeOf162,
  v51 := Tryz.zeroValue162,
  t70 := Tryz.underlying199,
  a70 := Tryz.isAgg199,
  z70 := Tryz.sizeOf199,
  v70 := Tryz.zeroValue199,
  t72 := Tryz.underlying201,
  a72 := Tryz.isAgg201,
  z72 := Tryz.sizeOf201,
  v72 := Tryz.zeroValue201,
  t75 := Tryz.underlying203,
  a75 := Tryz.isAgg203,
  z75 := Tryz.sizeOf203,
  v75 := Tryz.zeroValue203,
  t164 := Tryz.underlying242,
  a164 := Tryz.isAgg242,
  z164 := Tryz.sizeOf242,
  v164 := Tryz.zeroValue242 }
def Tryz.laysStr_ren : Ren :=
{ f := fun x =>
    match x with
    | 169 => 120
    | n => n,
  t := fun x =>
    match x with
    | 37 => 22
    | 70 => 199
    | 72 => 201
    | 127 => 233
    | n => n,
  g := fun x =>
    match x with
    | n => n }
theorem Tryz.laysStr : Lays.n169 Tryz.prog Tryz.laysStr_ren :=
{ mixed := Eq.refl true,
  f169 := Eq.trans Tryz.func120 (congrArg some (Eq.refl (Body.n169 Tryz.laysStr_ren))),
  t0 := Tryz.underlying0,
  a0 := Tryz.isAgg0,
  z0 := Tryz.sizeOf0,
  v0 := Tryz.zeroValue0,
  t3 := Tryz.underlying3,
  a3 := Tryz.isAgg3,
  z3 := Tryz.sizeOf3,
  v3 := Tryz.zeroValue3,
  t9 := Tryz.underlying9,
  a9 := Tryz.isAgg9,
  z9 := Tryz.sizeOf9,
  v9 := Tryz.zeroValue9,
  t37 := Tryz.underlying22,
  a37 := Tryz.isAgg22,
  z37 := Tryz.sizeOf22,
  v37 := Tryz.zeroValue22,
  t70 := Tryz.underlying199,
  a70 := Tryz.isAgg199,
  z70 := Tryz.sizeOf199,
  v70 := Tryz.zeroValue199,
  t72 := Tryz.underlying201,
  a72 := Tryz.isAgg201,
  z72 := Tryz.sizeOf201,
  v72 := Tryz.zeroValue201,
  t127 := Tryz.underlying233,
  a127 := Tryz.isAgg233,
  z127 := Tryz.sizeOf233,
  v127 := Tryz.zeroValue233 }
theorem Tryz.extraWB : Builder.Extra Tryz.prog Tryz.laysWB_ren where
  sizeBuilder := by kernel_rfl
  liesBuilder := by kernel_rfl
  t5 := Tryz.underlying5
  a5 := Tryz.isAgg5
  z5 := Tryz.sizeOf5
  v5 := Tryz.zeroValue5
  infoByte := by kernel_rfl
  cellsByte := by kernel_rfl
  sizeByte := by kernel_rfl
  neB5 := by decide
theorem Tryz.extraWR : Builder.Extra Tryz.prog Tryz.laysWR_ren where
  sizeBuilder := by kernel_rfl
  liesBuilder := by kernel_rfl
  t5 := Tryz.underlying5
  a5 := Tryz.isAgg5
  z5 := Tryz.sizeOf5
  v5 := Tryz.zeroValue5
  infoByte := by kernel_rfl
  cellsByte := by kernel_rfl
  sizeByte := by kernel_rfl
  neB5 := by decide
theorem Tryz.extraStr : Builder.Extra Tryz.prog Tryz.laysStr_ren where
  sizeBuilder := by kernel_rfl
  liesBuilder := by kernel_rfl
  t5 := Tryz.underlying5
  a5 := Tryz.isAgg5
  z5 := Tryz.sizeOf5
  v5 := Tryz.zeroValue5
  infoByte := by kernel_rfl
  cellsByte := by kernel_rfl
  sizeByte := by kernel_rfl
  neB5 := by decide
theorem Tryz.WriteByte_k (B b : Nat) (bs : List Value) (c : Int) (w : World) (h : Lib.IsBuilderF 201 5 B b bs w) (hlen : bs.length + 1 ≤ 140737488355328) (hBw : B ≤ w.heap.size) :
    Calls Tryz.prog 118 #[.pointer (some ⟨b, 0, none⟩), .int .u8 c] w fun e w' => e = .returned .nilIface ∧ (Lib.BuilderAtF 201 5 B b (.pointer (some ⟨b, 0, none⟩)) (bs ++ [.int .u8 c]) w' ∧ Below B w w' ∧ Lib.OthersKept 5 (some b) w w') := Any.Builder_WriteByte_k Tryz.laysWB Tryz.extraWB B b bs c w h hlen hBw
theorem Tryz.WriteRune_k (B b : Nat) (bs : List Value) (r : Int) (hr0 : -2147483648 ≤ r) (hr1 : r ≤ 2147483647) (w : World) (h : Lib.IsBuilderF 201 5 B b bs w) (hlen : bs.length + 4 ≤ 140737488355328) (hBw : B ≤ w.heap.size) :
    Calls Tryz.prog 119 #[.pointer (some ⟨b, 0, none⟩), .int .i32 r] w fun e w' => e = .returned (.tuple #[.int .i64 (Lib.runeCells r).length, .nilIface]) ∧ (Lib.BuilderAtF 201 5 B b (.pointer (some ⟨b, 0, none⟩)) (bs ++ Lib.runeCells r) w' ∧ Below B w w' ∧ Lib.OthersKept 5 (some b) w w') := Any.Builder_WriteRune_k Tryz.laysWR Tryz.extraWR B b bs r hr0 hr1 w h hlen hBw
theorem Tryz.String_k (B b : Nat) (l : List UInt8) (w : World) (h : Lib.IsBuilderF 201 5 B b (Lib.byteCells l) w) (hBw : B ≤ w.heap.size) :
    Calls Tryz.prog 120 #[.pointer (some ⟨b, 0, none⟩)] w fun e w' => e = .returned (.string ⟨l.toArray⟩) ∧ (Lib.IsBuilderF 201 5 B b (Lib.byteCells l) w' ∧ Below B w w' ∧ Lib.OthersKept 5 (some b) w w') := Any.Builder_String_any_k Tryz.laysStr Tryz.extraStr B b l w h hBw
theorem Tryz.ToLower_k (r : Int) (w : World) (hV : CaseVar 3 caseA w) :
    Calls Tryz.prog 73 #[.int .i32 r] w fun e w' => e = .returned (.int .i32 (toLowerU r)) ∧ ∃ q, w' = w.drewN q := Any.unicode_ToLower_laid Tryz.laysLower r w hV
end Go.Proofs
set_option linter.unusedVariables false
namespace Seal
open Go Go.Lib Go.Proofs Go.RowKit
structure Tabs2 (w : World) : Prop where
  t : Tabs w
  c : CaseVar 3 caseA w
theorem Tabs2.below {w w' : World} (h : Tabs2 w) (hb : Below w.heap.size w w') : Tabs2 w' := by
  refine ⟨h.t.below hb, ?_⟩
  have kc : ∀ a v, w.cell? a = some v → w'.cell? a = some v := fun a v ha => by
    have hlt : a.block < w.heap.size := by
      rcases Nat.lt_or_ge a.block w.heap.size with h | h
      · exact h
      · unfold World.cell? at ha
        rw [Array.getElem?_eq_none h] at ha; cases ha
    rw [hb.cell hlt]; exact ha
  obtain ⟨R, oR, cap, h1, h2⟩ := h.c
  refine ⟨R, oR, cap, kc _ _ h1, fun i hi => ?_⟩
  obtain ⟨a1, a2, a3, a4, a5⟩ := h2 i hi
  exact ⟨kc _ _ a1, kc _ _ a2, kc _ _ a3, kc _ _ a4, kc _ _ a5⟩
theorem znw (r : Int) (h0 : 0 ≤ r) (h1 : r ≤ 2147483647) : -2147483648 ≤ toLowerU r ∧ toLowerU r ≤ 2147483647 := by
  rw [← toLowerW_caseA]
  unfold Go.Proofs.Lib.toLowerW
  split
  · split <;> omega
  · unfold toW
    split
    · unfold wrap32; omega
    · omega
def foldR (s : ByteArray) (pos : Nat) : List UInt8 := if brF s pos (Utf8.decode s pos).1 then [s.get! pos] else encodeRune (toLowerU (Utf8.decode s pos).1)
def foldG (s : ByteArray) : Nat → Nat → List UInt8
  | 0, _ => []
  | f + 1, pos => if pos < s.size then foldR s pos ++ foldG s f (pos + (Utf8.decode s pos).2) else []
theorem zuB (s : ByteArray) (f pos : Nat) (h : ¬ pos < s.size) : foldG s f pos = [] := by
  cases f with
  | zero => rfl
  | succ f => simp [foldG, h]
def foldF (s : ByteArray) : ByteArray := ⟨(foldG s s.size 0).toArray⟩
theorem zow (w : World) (q : Nat) : Below w.heap.size w (w.drewN q) := ⟨rfl, rfl, rfl, Nat.le_refl _, fun _ _ => rfl⟩
theorem zju (r : Int) (w : World) (hV : CaseVar 3 caseA w) : Calls Tryz.prog 73 #[.int .i32 r] w fun e w' => e = .returned (.int .i32 (toLowerU r)) ∧ Below w.heap.size w w' :=
  (Tryz.ToLower_k r w hV).mono fun e w' ⟨he, q, hw⟩ => ⟨he, hw ▸ zow w q⟩
set_option maxHeartbeats 4000000 in
set_option maxRecDepth 1000000 in
theorem zbE (s : ByteArray) (w : World) (hT : Tabs2 w) (hs : s.size ≤ 35184372088832) :
    Calls Tryz.prog 102 #[.string s] w fun e w' => e = .returned (.string (foldF s)) ∧ Below w.heap.size w w' := by
  go_enter Tryz.func102, Tryz.ntmps102
  go_wp2
  go_loopw [] (fun wr => ∃ (pos fuel : Nat) (acc : List UInt8), Lib.IsBuilderF 201 5 w.heap.size w.heap.size (Lib.byteCells acc) wr ∧ wr.heap[w.heap.size + 1]? = some (.stringIter s pos) ∧ Below w.heap.size w wr ∧ acc ++ foldG s fuel pos = foldG s s.size 0 ∧ s.size ≤ pos + fuel ∧ acc.length ≤ 4 * pos) (fun wr => s.size - wr.iterPos (w.heap.size + 1))
  case atStart =>
    refine ⟨0, s.size, [], (Lib.IsBuilderF.of (Lib.fresh_isBuilder 201 5 w)).alloc _, ?_, ((Below.refl _ w).alloc (Nat.le_refl _) _).alloc (by simp) _, rfl, by omega, by simp⟩
    have := World.iter_heap (w.alloc (.cells #[.pointer none, .slice none 0 0] 201)) s 0
    simpa using this
  case round =>
    obtain ⟨pos, fuel, acc, hI, hit, hbw, hacc, hfu, hal⟩ := hrel
    have hsz : w.heap.size + 1 < wr.heap.size := (Array.getElem?_eq_some_iff.1 hit).1
    by_cases hp : pos < s.size
    · have hnx : ∀ ty, (Instr.next (.pointer (some ⟨w.heap.size + 1, 0, none⟩)) true ty).run Tryz.prog wr = _ := fun ty => Lib.run_next_any_at wr (w.heap.size + 1) s pos ty hit hp
      have hwd := width_pos s pos hp
      have hd1 := decode_le s pos
      have hI2 := hI.iterAt hit (pos + (Utf8.decode s pos).2)
      have hit2 := Lib.iterAt_heap wr (w.heap.size + 1) s pos (pos + (Utf8.decode s pos).2) hit
      have hbw2 := Lib.below_iterAt hbw (k := w.heap.size + 1) (by omega) s (pos + (Utf8.decode s pos).2)
      have hsz2 : w.heap.size ≤ (wr.iterAt (w.heap.size + 1) s (pos + (Utf8.decode s pos).2)).heap.size := by rw [Lib.iterAt_size]; omega
      obtain ⟨f, rfl⟩ : ∃ f, fuel = f + 1 := ⟨fuel - 1, by omega⟩
      generalize wr.iterAt (w.heap.size + 1) s (pos + (Utf8.decode s pos).2) = w1 at *
      have hT1 : Tabs2 w1 := hT.below hbw2
      have hlt : w.heap.size + 1 < w1.heap.size := (Array.getElem?_eq_some_iff.1 hit2).1
      have cB : Calls Tryz.prog 116 #[.string s, .int .i64 pos, .int .i32 (Utf8.decode s pos).1] w1 fun e w' => e = .returned (.bool (brF s pos (Utf8.decode s pos).1)) ∧ Below w1.heap.size w1 w' := zhr s pos (Nat.le_of_lt hp) (Utf8.decode s pos).1 w1 hT1.t.u
      obtain ⟨br, hbr⟩ : ∃ br, brF s pos (Utf8.decode s pos).1 = br := ⟨_, rfl⟩
      rw [hbr] at cB
      go_wp2_with fail
      refine cB.mono fun e w2 ⟨he, hb2⟩ => ?_
      subst he
      have hbw3 : Below w.heap.size w w2 := hbw2.trans (hb2.mono hbw2.size)
      have hit3 : w2.heap[w.heap.size + 1]? = some (.stringIter s (pos + (Utf8.decode s pos).2)) := by rw [hb2.block _ hlt]; exact hit2
      have hI3 := hI2.below hb2
      have hT2 : Tabs2 w2 := hT.below hbw3
      have hsz3 : w.heap.size ≤ w2.heap.size := hbw3.size
      clear hit2 hbw2 hb2 hI2 cB hT1
      cases br with
      | true =>
        go_wp2_with (go_at_call 118; refine (Tryz.WriteByte_k w.heap.size w.heap.size _ _ _ hI3 (by rw [Lib.byteCells_length]; omega) hsz3).mono ?_)
        rintro e W1 ⟨rfl, h1, b1, k1⟩
        go_wp2
        go_roundw
        case rel =>
          refine ⟨pos + (Utf8.decode s pos).2, f, acc ++ [s.get! pos], ?_, k1.iter hit3 (by omega), hbw3.trans b1, ?_, by omega, by simp; omega⟩
          · rw [Lib.byteCells_append]
            have eg : s.get! pos = s[pos]'hp := by cases s with | mk d => exact getElem!_pos d pos hp
            rw [eg]
            exact Or.inr h1
          · rw [← hacc]; simp [foldG, hp, foldR, hbr]
        case measure =>
          simp only [World.iterPos, k1.iter hit3 (by omega), hit]
          omega
      | false =>
        have hlo := znw (Utf8.decode s pos).1 (by omega) (by omega)
        have cL := zju (Utf8.decode s pos).1 w2 hT2.c
        go_wp2_with fail
        refine cL.mono fun e w3 ⟨he, hb3⟩ => ?_
        subst he
        have hlt3 : w.heap.size + 1 < w2.heap.size := (Array.getElem?_eq_some_iff.1 hit3).1
        have hbw4 : Below w.heap.size w w3 := hbw3.trans (hb3.mono hbw3.size)
        have hit4 : w3.heap[w.heap.size + 1]? = some (.stringIter s (pos + (Utf8.decode s pos).2)) := by rw [hb3.block _ hlt3]; exact hit3
        have hI4 := hI3.below hb3
        have hsz4 : w.heap.size ≤ w3.heap.size := hbw4.size
        clear hit3 hbw3 hb3 hI3 cL hT2
        go_wp2_with (go_at_call 119; refine (Tryz.WriteRune_k w.heap.size w.heap.size _ _ hlo.1 hlo.2 _ hI4 (by rw [Lib.byteCells_length]; omega) hsz4).mono ?_)
        rintro e W1 ⟨rfl, h1, b1, k1⟩
        go_wp2
        go_roundw
        case rel =>
          have hl4 := Lib.runeCells_le (toLowerU ((Utf8.decode s pos).1 : Int))
          rw [Lib.runeCells_length] at hl4
          refine ⟨pos + (Utf8.decode s pos).2, f, acc ++ Lib.encodeRune (toLowerU (Utf8.decode s pos).1), ?_, k1.iter hit4 (by omega), hbw4.trans b1, ?_, by omega, by simp; omega⟩
          · rw [Lib.byteCells_append, Lib.byteCells_encodeRune]; exact Or.inr h1
          · rw [← hacc]; simp [foldG, hp, foldR, hbr]
        case measure =>
          simp only [World.iterPos, k1.iter hit4 (by omega), hit]
          omega
    · have hnx : ∀ ty, (Instr.next (.pointer (some ⟨w.heap.size + 1, 0, none⟩)) true ty).run Tryz.prog wr = _ := fun ty => Lib.run_next_end_at wr (w.heap.size + 1) s pos ty hit hp
      go_wp2_with (go_at_call 120; refine (Tryz.String_k w.heap.size w.heap.size acc _ hI (by omega)).mono ?_)
      rintro e W1 ⟨rfl, _, b1, _⟩
      go_wp2
      go_ret
      rw [zuB s fuel pos hp, List.append_nil] at hacc
      subst hacc
      exact ⟨rfl, hbw.trans b1⟩
end Seal
set_option linter.unusedVariables false
set_option maxRecDepth 100000
namespace Seal
open Go Go.Lib Go.Shelf Go.Proofs Go.Proofs.YtheklmekepeblaaGreatDoor
variable {W : World}
theorem tabs2_of_reads (h1 : VarReads Tryz.prog W "unicode/utf8.acceptRanges" Rows.laid_unicode_utf8_acceptRanges) (h2 : VarReads Tryz.prog W "unicode.properties" Rows.laid_unicode_properties)
    (h3 : VarReads Tryz.prog W "unicode.CaseRanges" Rows.laid_unicode_CaseRanges) (h4 : VarReads Tryz.prog W "unicode.Digit" Rows.laid_unicode_Digit) (h5 : VarReads Tryz.prog W "unicode.Letter" Rows.laid_unicode_Letter) (h6 : VarReads Tryz.prog W "unicode/utf8.first" Rows.laid_unicode_utf8_first) : Tabs2 W := by
  refine ⟨zCs h1 h2 h4 h5 h6, ?_⟩
  have h3 : VarReads Tryz.prog W "unicode.CaseRanges" Pinned.caseRanges := h3
  rw [Pinned.caseRanges_eq] at h3
  exact caseVar_of_reads (ρ := Tryz.laysLower_ren) { Tryz.laysLower with } (by kernel_rfl) (by constructor <;> kernel_rfl) h3
theorem zku {P : Program} {B : Nat} {σ : Ab.Loc} {h : Nat → Option Ab.Obj} {H : Ab.Heap} {w W : World} (k : @Ab.Known (Ab.baseOf W) P B σ h H w) {g : Nat} {T : Array CaseRow} (hV : CaseVar g T W) : CaseVar g T w := by
  obtain ⟨R, oR, cap, h1, h2⟩ := hV
  refine ⟨R, oR, cap, Ab.cell_base k h1, fun i hi => ?_⟩
  obtain ⟨a1, a2, a3, a4, a5⟩ := h2 i hi
  exact ⟨Ab.cell_base k a1, Ab.cell_base k a2, Ab.cell_base k a3, Ab.cell_base k a4, Ab.cell_base k a5⟩
theorem zJy {B : Nat} {σ : Ab.Loc} {h : Nat → Option Ab.Obj} {H : Ab.Heap} {w W : World} (k : @Ab.Known (Ab.baseOf W) Tryz.prog B σ h H w) (hT : Tabs2 W) : Tabs2 w := ⟨zhu k hT.t, zku k hT.c⟩
theorem zvB (hT : Tabs2 W) {s : ByteArray} (hs : s.size ≤ 35184372088832) (H : Ab.Heap) : @Ab.OrcGood (Ab.baseOf W) Tryz.prog 102 [.string s] H (.string (foldF s)) :=
  Ab.good_of_calls rfl rfl ⟨_, _, Tryz.func102, rfl⟩ fun B σ h w k => zbE s w (zJy k hT) hs
theorem zKy (hT : Tabs2 W) (r : Int) (H : Ab.Heap) : @Ab.OrcGood (Ab.baseOf W) Tryz.prog 73 [.int .i32 r] H (.int .i32 (toLowerU r)) :=
  Ab.good_of_calls rfl rfl ⟨_, _, Tryz.func73, rfl⟩ fun B σ h w k => zju r w (zku k hT.c)
def zcE (args : List Value) : Option Value := match args with
  | [.string s] => cond (Nat.ble s.size 35184372088832) (some (.string (foldF s))) none
  | _ => none
def zOJ (args : List Value) : Option Value := match args with
  | [.int .i32 r] => some (.int .i32 (toLowerU r))
  | _ => none
abbrev orcS2 : Ab.Orc := ⟨fun f args H => cond (Nat.beq f 102) (zcE args) (cond (Nat.beq f 73) (zOJ args) (zcK.tab f args H))⟩
theorem zLy {args : List Value} {v : Value} (h : zcE args = some v) : ∃ s, args = [.string s] ∧ s.size ≤ 35184372088832 ∧ v = .string (foldF s) := by
  unfold zcE at h
  split at h
  · rename_i s
    cases hb : Nat.ble s.size 35184372088832 with
    | false => rw [hb] at h; cases h
    | true =>
      rw [hb] at h
      cases h
      exact ⟨s, rfl, Nat.le_of_ble_eq_true hb, rfl⟩
  · cases h
theorem zwB {args : List Value} {v : Value} (h : zOJ args = some v) : ∃ r, args = [.int .i32 r] ∧ v = .int .i32 (toLowerU r) := by
  unfold zOJ at h
  split at h
  · cases h; exact ⟨_, rfl, rfl⟩
  · cases h
theorem orcS2_ok (hT : Tabs2 W) : @Ab.OrcOk (Ab.baseOf W) orcS2 Tryz.prog := by
  intro f args H v h
  have h : cond (Nat.beq f 102) (zcE args) (cond (Nat.beq f 73) (zOJ args) (zcK.tab f args H)) = some v := h
  cases h1 : Nat.beq f 102 with
  | true =>
    rw [h1] at h
    obtain rfl := Nat.eq_of_beq_eq_true h1
    obtain ⟨s, rfl, hs, rfl⟩ := zLy h
    exact zvB hT hs H
  | false =>
  rw [h1] at h
  cases h2 : Nat.beq f 73 with
  | true =>
    rw [h2] at h
    obtain rfl := Nat.eq_of_beq_eq_true h2
    obtain ⟨r, rfl, rfl⟩ := zwB h
    exact zKy hT r H
  | false =>
  rw [h2] at h
  exact zuG hT.t f args H v h
end Seal
