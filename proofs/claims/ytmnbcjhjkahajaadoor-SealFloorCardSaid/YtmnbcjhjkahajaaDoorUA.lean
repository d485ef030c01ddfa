/- texts of the proof, one behind the other -/
import Derived.Test.YtmnbcjhjkahajaaDoorProg
import Derived.WalkKit
import Derived.KernelRfl
import Derived.Shelf.Unicode.PredsPay
import Derived.Shelf.Unicode.DecodeAny
import Derived.Lib.OthersKept
import Derived.Test.YtmnbcjhjkahajaaDoorRows
import Derived.PinnedBridge
import Derived.Lib.LaidU8T
import Derived.Lib.LaidRTab
import Derived.Lib.LaidTab
import Derived.BigCall
import Derived.Shelf.Strings.BuilderK
import Derived.Shelf.Strings.BuilderRune
import Derived.Shelf.Unicode.CaseLaid
import Derived.Lib.RuneBytes
import Derived.Shelf.Strings.MapGrows
import Derived.Lib.LaidCase
import Derived.Test.YtmnbcjhjkahajaaDoorAbC
set_option linter.unusedVariables false
set_option linter.unusedSimpArgs false
set_option linter.unusedSectionVars false
namespace Go.Proofs
open Go.RowKit Go.Shelf Go.Lib
set_option maxRecDepth 100000
def Tryd.laysDigit_ren : Ren :=
{
  f := fun x =>
    match x with
    | 198 => 79
    | 261 => 93
    | 311 => 99
    | 312 => 100
    | n => n,
  t := fun x =>
    match x with
    | 21 => 21
    | 4 => 4
    | 141 => 152
    | 0 => 0
    | 196 => 165
    | 193 => 162
    | 3 => 3
    | 51 => 111
    | 198 => 168
    | 49 => 166
    | 194 => 163
    | 201 => 171
    | 226 => 178
    | 46 => 99
    | 227 => 179
    | n => n,
  g := fun x =>
    match x with
    | 5 => 2
    | n => n }
def Tryd.laysLetter_ren : Ren :=
{
  f := fun x =>
    match x with
    | 200 => 78
    | 261 => 93
    | 311 => 99
    | 312 => 100
    | n => n,
  t := fun x =>
    match x with
    | 21 => 21
    | 4 => 4
    | 51 => 111
    | 5 => 5
    | 119 => 150
    | 0 => 0
    | 141 => 152
    | 196 => 165
    | 193 => 162
    | 3 => 3
    | 198 => 168
    | 49 => 166
    | 194 => 163
    | 201 => 171
    | 226 => 178
    | 46 => 99
    | 227 => 179
    | n => n,
  g := fun x =>
    match x with
    | 7 => 0
    | 8 => 1
    | n => n }
def Tryd.laysDecode_ren : Ren :=
{
  f := fun x =>
    match x with
    | 197 => 94
    | 260 => 101
    | n => n,
  t := fun x =>
    match x with
    | 9 => 9
    | 21 => 21
    | 3 => 3
    | 4 => 4
    | 5 => 5
    | 105 => 153
    | 119 => 150
    | 0 => 0
    | 46 => 99
    | 139 => 182
    | 138 => 181
    | n => n,
  g := fun x =>
    match x with
    | 3 => 4
    | 4 => 5
    | n => n }
theorem Tryd.laysLetter : Lays.n200 Tryd.prog Tryd.laysLetter_ren :=
{ mixed := Eq.refl true, f200 := Eq.trans Tryd.func78 (congrArg some (Eq.refl (Body.n200 Tryd.laysLetter_ren))),
  f261 := Eq.trans Tryd.func93 (congrArg some (Eq.refl (Body.n261 Tryd.laysLetter_ren))),
  f311 := Eq.trans Tryd.func99 (congrArg some (Eq.refl (Body.n311 Tryd.laysLetter_ren))),
  f312 := Eq.trans Tryd.func100 (congrArg some (Eq.refl (Body.n312 Tryd.laysLetter_ren))), t0 := Tryd.underlying0,
  a0 := Tryd.isAgg0, z0 := Tryd.sizeOf0, v0 := Tryd.zeroValue0, t3 := Tryd.underlying3, a3 := Tryd.isAgg3,
  z3 := Tryd.sizeOf3, v3 := Tryd.zeroValue3, t4 := Tryd.underlying4, a4 := Tryd.isAgg4, z4 := Tryd.sizeOf4,
  v4 := Tryd.zeroValue4, t5 := Tryd.underlying5, a5 := Tryd.isAgg5, z5 := Tryd.sizeOf5, v5 := Tryd.zeroValue5,
  t21 := Tryd.underlying21, a21 := Tryd.isAgg21, z21 := Tryd.sizeOf21, v21 := Tryd.zeroValue21,
  t46 := Tryd.underlying99, a46 := Tryd.isAgg99, z46 := Tryd.sizeOf99, v46 := Tryd.zeroValue99,
  t49 := Tryd.underlying166, a49 := Tryd.isAgg166, z49 := Tryd.sizeOf166, v49 := Tryd.zeroValue166,
  t51 := Tryd.underlying111, a51 := Tryd.isAgg111, z51 := Tryd.sizeOf111, v51 := Tryd.zeroValue111,
  t119 := Tryd.underlying150, a119 := Tryd.isAgg150, z119 := Tryd.sizeOf150, t141 := Tryd.underlying152,
  a141 := Tryd.isAgg152, z141 := Tryd.sizeOf152, v141 := Tryd.zeroValue152, t193 := Tryd.underlying162,
  a193 := Tryd.isAgg162, z193 := Tryd.sizeOf162, v193 := Tryd.zeroValue162, t194 := Tryd.underlying163,
  a194 := Tryd.isAgg163, z194 := Tryd.sizeOf163, v194 := Tryd.zeroValue163, t196 := Tryd.underlying165,
  a196 := Tryd.isAgg165, z196 := Tryd.sizeOf165, v196 := Tryd.zeroValue165, t198 := Tryd.underlying168,
  a198 := Tryd.isAgg168, z198 := Tryd.sizeOf168, v198 := Tryd.zeroValue168, t201 := Tryd.underlying171,
  a201 := Tryd.isAgg171, z201 := Tryd.sizeOf171, v201 := Tryd.zeroValue171, t226 := Tryd.underlying178,
  a226 := Tryd.isAgg178, z226 := Tryd.sizeOf178, v226 := Tryd.zeroValue178, t227 := Tryd.underlying179,
  a227 := Tryd.isAgg179, z227 := Tryd.sizeOf179, v227 := Tryd.zeroValue179,
  g7 := (by kernel_rfl), g8 := (by kernel_rfl) }
theorem Tryd.laysDigit : Lays.n198 Tryd.prog Tryd.laysDigit_ren :=
{ mixed := Eq.refl true, f198 := Eq.trans Tryd.func79 (congrArg some (Eq.refl (Body.n198 Tryd.laysDigit_ren))),
  f261 := Eq.trans Tryd.func93 (congrArg some (Eq.refl (Body.n261 Tryd.laysDigit_ren))),
  f311 := Eq.trans Tryd.func99 (congrArg some (Eq.refl (Body.n311 Tryd.laysDigit_ren))),
  f312 := Eq.trans Tryd.func100 (congrArg some (Eq.refl (Body.n312 Tryd.laysDigit_ren))), t0 := Tryd.underlying0,
  a0 := Tryd.isAgg0, z0 := Tryd.sizeOf0, v0 := Tryd.zeroValue0, t3 := Tryd.underlying3, a3 := Tryd.isAgg3,
  z3 := Tryd.sizeOf3, v3 := Tryd.zeroValue3, t4 := Tryd.underlying4, a4 := Tryd.isAgg4, z4 := Tryd.sizeOf4,
  v4 := Tryd.zeroValue4, t21 := Tryd.underlying21, a21 := Tryd.isAgg21, z21 := Tryd.sizeOf21, v21 := Tryd.zeroValue21,
  t46 := Tryd.underlying99, a46 := Tryd.isAgg99, z46 := Tryd.sizeOf99, v46 := Tryd.zeroValue99,
  t49 := Tryd.underlying166, a49 := Tryd.isAgg166, z49 := Tryd.sizeOf166, v49 := Tryd.zeroValue166,
  t51 := Tryd.underlying111, a51 := Tryd.isAgg111, z51 := Tryd.sizeOf111, v51 := Tryd.zeroValue111,
  t141 := Tryd.underlying152, a141 := Tryd.isAgg152, z141 := Tryd.sizeOf152, v141 := Tryd.zeroValue152,
  t193 := Tryd.underlying162, a193 := Tryd.isAgg162, z193 := Tryd.sizeOf162, v193 := Tryd.zeroValue162,
  t194 := Tryd.underlying163, a194 := Tryd.isAgg163, z194 := Tryd.sizeOf163, v194 := Tryd.zeroValue163,
  t196 := Tryd.underlying165, a196 := Tryd.isAgg165, z196 := Tryd.sizeOf165, v196 := Tryd.zeroValue165,
  t198 := Tryd.underlying168, a198 := Tryd.isAgg168, z198 := Tryd.sizeOf168, v198 := Tryd.zeroValue168,
  t201 := Tryd.underlying171, a201 := Tryd.isAgg171, z201 := Tryd.sizeOf171, v201 := Tryd.zeroValue171,
  t226 := Tryd.underlying178, a226 := Tryd.isAgg178, z226 := Tryd.sizeOf178, v226 := Tryd.zeroValue178,
  t227 := Tryd.underlying179, a227 := Tryd.isAgg179, z227 := Tryd.sizeOf179, v227 := Tryd.zeroValue179,
  g5 := (by kernel_rfl) }
theorem Tryd.laysDecode : Lays.n197 Tryd.prog Tryd.laysDecode_ren :=
{ mixed := Eq.refl true, f197 := Eq.trans Tryd.func94 (congrArg some (Eq.refl (Body.n197 Tryd.laysDecode_ren))),
  f260 := Eq.trans Tryd.func101 (congrArg some (Eq.refl (Body.n260 Tryd.laysDecode_ren))), t0 := Tryd.underlying0,
  a0 := Tryd.isAgg0, z0 := Tryd.sizeOf0, v0 := Tryd.zeroValue0, t3 := Tryd.underlying3, a3 := Tryd.isAgg3,
  z3 := Tryd.sizeOf3, v3 := Tryd.zeroValue3, t4 := Tryd.underlying4, a4 := Tryd.isAgg4, z4 := Tryd.sizeOf4,
  v4 := Tryd.zeroValue4, t5 := Tryd.underlying5, a5 := Tryd.isAgg5, z5 := Tryd.sizeOf5, v5 := Tryd.zeroValue5,
  t9 := Tryd.underlying9, a9 := Tryd.isAgg9, z9 := Tryd.sizeOf9, v9 := Tryd.zeroValue9, t21 := Tryd.underlying21,
  a21 := Tryd.isAgg21, z21 := Tryd.sizeOf21, v21 := Tryd.zeroValue21, t46 := Tryd.underlying99, a46 := Tryd.isAgg99,
  z46 := Tryd.sizeOf99, v46 := Tryd.zeroValue99, t105 := Tryd.underlying153, a105 := Tryd.isAgg153,
  z105 := Tryd.sizeOf153, v105 := Tryd.zeroValue153, t119 := Tryd.underlying150, a119 := Tryd.isAgg150,
  z119 := Tryd.sizeOf150, t138 := Tryd.underlying181, a138 := Tryd.isAgg181, z138 := Tryd.sizeOf181,
  v138 := Tryd.zeroValue181, t139 := Tryd.underlying182, a139 := Tryd.isAgg182, z139 := Tryd.sizeOf182,
  v139 := Tryd.zeroValue182, g3 := (by kernel_rfl),
  g4 := (by kernel_rfl) }
end Go.Proofs
set_option linter.unusedVariables false
set_option maxRecDepth 100000
namespace Go.Ab
open Go Go.Lib
variable {P : Program} {B : Nat} {σ : Loc} {h : Nat → Option Obj} {H : Heap} {w W : World}
theorem cell_base (k : @Known (baseOf W) P B σ h H w) {a : Addr} {v : Value} (hc : W.cell? a = some v) : w.cell? a = some v := by
  letI := baseOf W
  have hlt : a.block < W.heap.size := by
    rcases Nat.lt_or_ge a.block W.heap.size with h | h
    · exact h
    · unfold World.cell? at hc
      rw [Array.getElem?_eq_none h] at hc; cases hc
  have e : w.heap[a.block]? = W.heap[a.block]? := k.base _ (Nat.lt_of_lt_of_le hlt k.lo)
  unfold World.cell? at *
  rw [e]; exact hc
theorem zsr (k : @Known (baseOf W) P B σ h H w) {n : String} {v : Array Value} (hc : W.var? P n = some v) : w.var? P n = some v := by
  letI := baseOf W
  unfold World.var? at *
  cases hg : P.globalNamed n with
  | none => rw [hg] at hc; cases hc
  | some g =>
    rw [hg] at hc
    have hlt : g < W.heap.size := by
      rcases Nat.lt_or_ge g W.heap.size with h | h
      · exact h
      · have hc : (match W.heap[g]? with | some (.cells cs _ _) => some cs | _ => none) = some v := hc
        rw [Array.getElem?_eq_none h] at hc; cases hc
    have e : w.heap[g]? = W.heap[g]? := k.base _ (Nat.lt_of_lt_of_le hlt k.lo)
    show (match w.heap[g]? with | some (.cells cs _ _) => some cs | _ => none) = some v
    rw [e]; exact hc
theorem zzw (k : @Known (baseOf W) P B σ h H w) {n : String} {kd : IntKind} {zs : List Int} (hT : TabIs P W n kd zs) : TabIs P w n kd zs := zsr k hT
theorem zIo (k : @Known (baseOf W) P B σ h H w) {g : Nat} {T : RTab} (hV : RVar g T W) : RVar g T w := by
  obtain ⟨Tb, oT, h1, a16, a32, R16, o16, c16, R32, o32, c32, h2, h3, h4, h5, h6, h7, h8, h9⟩ := hV
  refine ⟨Tb, oT, cell_base k h1, a16, a32, R16, o16, c16, R32, o32, c32, cell_base k h2, cell_base k h3, cell_base k h4, h5, h6, fun i hi => ?_, fun i hi => ?_, h9⟩
  · obtain ⟨x, y, z⟩ := h7 i hi
    exact ⟨cell_base k x, cell_base k y, cell_base k z⟩
  · obtain ⟨x, y, z⟩ := h8 i hi
    exact ⟨cell_base k x, cell_base k y, cell_base k z⟩
theorem good_of_calls {f : FuncId} {args : List Value} {v : Value} (ha : args.all flat2 = true) (hv : flat3 v = true) (hf : ∃ fn c, P.funcs[f]? = some fn ∧ fn.body = some c)
    (hc : ∀ (B : Nat) (σ : Loc) (h : Nat → Option Obj) (w : World), @Known (baseOf W) P B σ h H w → Calls P f args.toArray w fun e w' => e = .returned v ∧ RowKit.Below w.heap.size w w') : @OrcGood (baseOf W) P f args H v := by
  intro B σ h w args' k hva
  have e : args' = args.toArray := Array.ext' (by rw [hva.flat2 ha])
  subst e
  refine ⟨hf, CallsIn.mono (callsIn_wide.2 (hc B σ h w k)) ?_⟩
  rintro e w' ⟨rfl, hb⟩
  exact ⟨v, rfl, zTv hv, hb⟩
end Go.Ab
namespace Seal
open Go Go.Ab Go.Lib Go.Proofs
variable {W : World}
theorem zlq (hT : TabIs Tryd.prog W "unicode.properties" .u8 propertiesTab) (hV : RVar 1 letterT W) {r : Int} (h1 : -2147483648 ≤ r) (h2 : r ≤ 2147483647) (H : Heap) : @OrcGood (baseOf W) Tryd.prog 78 [.int .i32 r] H (.bool (isLetterU r)) :=
  good_of_calls rfl rfl ⟨_, _, Tryd.func78, rfl⟩ fun B σ h w k => Any.unicode_IsLetter_all Tryd.laysLetter (by kernel_rfl) r w h1 h2 (zzw k hT) (zIo k hV)
theorem zjs (hV : RVar 2 digitT W) {r : Int} (h1 : -2147483648 ≤ r) (h2 : r ≤ 2147483647) (H : Heap) : @OrcGood (baseOf W) Tryd.prog 79 [.int .i32 r] H (.bool (isDigitU r)) :=
  good_of_calls rfl rfl ⟨_, _, Tryd.func79, rfl⟩ fun B σ h w k => Any.unicode_IsDigit_all Tryd.laysDigit r w h1 h2 (zIo k hV)
end Seal
set_option linter.unusedVariables false
namespace Seal
open Go Go.Lib Go.Proofs Go.RowKit
set_option maxRecDepth 1000000 in
theorem zru (s : ByteArray) (a c : Int) (hc : c ≠ 65533) (w : World) : Calls Tryd.prog 80 #[.string s, .int .i64 a, .int .i32 c] w fun e w' => e = .returned (.bool false) ∧ w' = w := by
  have h : (c != 65533) = true := by simp [hc]
  go_enter Tryd.func80, Tryd.ntmps80
  go_wp2
  go_ret
  exact ⟨rfl, rfl⟩
set_option maxRecDepth 1000000 in
theorem zks (s : ByteArray) (a : Nat) (ha : a ≤ s.size) (w : World) (hT : Utf8Tabs 4 5 w) : Calls Tryd.prog 80 #[.string s, .int .i64 a, .int .i32 65533] w fun e w' => e = .returned (.bool (decide ((decodeGo (s.extract a s.size)).2 = 1))) ∧ Below w.heap.size w w' := by
  have cD : Calls Tryd.prog 94 #[.string (s.extract a s.size)] w _ := Any.utf8_DecodeRuneInString Tryd.laysDecode (s.extract a s.size) w hT
  have h1 : (0 : Int) ≤ a := by omega
  have h2 : (a : Int) ≤ s.size := by omega
  go_enter Tryd.func80, Tryd.ntmps80
  go_wp2_with fail
  refine cD.mono fun e w1 ⟨he, hb⟩ => ?_
  subst he
  go_wp2_with fail
  go_ret
  refine ⟨?_, hb⟩
  show Ending.returned (.bool (((decodeGo (s.extract a s.size)).2 : Int) == 1)) = _
  have e : (((decodeGo (s.extract a s.size)).2 : Int) == 1) = decide ((decodeGo (s.extract a s.size)).2 = 1) := by
    rw [Bool.eq_iff_iff]
    simp
    omega
  rw [e]
set_option maxRecDepth 1000000 in
theorem zAm (s : ByteArray) (a : Nat) (ha : a ≤ s.size) (c : Int) (w : World) (hT : Utf8Tabs 4 5 w) : Calls Tryd.prog 80 #[.string s, .int .i64 a, .int .i32 c] w fun e w' => e = .returned (.bool (decide (c = 65533 ∧ (decodeGo (s.extract a s.size)).2 = 1))) ∧ Below w.heap.size w w' := by
  by_cases hc : c = 65533
  · subst hc
    refine (zks s a ha w hT).mono fun e w' ⟨he, hb⟩ => ⟨?_, hb⟩
    rw [he]; simp
  · refine (zru s a c hc w).mono fun e w' ⟨he, hw⟩ => ⟨?_, hw ▸ Below.refl _ _⟩
    rw [he]; simp [hc]
def partF (c : Int) (first : Bool) : Bool := isLetterU c || !first && (isDigitU c || c == 45 || c == 95 || c == 46)
set_option maxRecDepth 1000000 in
theorem zAw (c : Int) (first : Bool) (h1 : -2147483648 ≤ c) (h2 : c ≤ 2147483647) (w : World) (hT : TabIs Tryd.prog w "unicode.properties" .u8 propertiesTab) (hL : RVar 1 letterT w) (hD : ∀ w', Below w.heap.size w w' → RVar 2 digitT w') :
    Calls Tryd.prog 81 #[.int .i32 c, .bool first] w fun e w' => e = .returned (.bool (partF c first)) ∧ Below w.heap.size w w' := by
  have cL : Calls Tryd.prog 78 #[.int .i32 c] w _ := Any.unicode_IsLetter_all Tryd.laysLetter (by kernel_rfl) c w h1 h2 hT hL
  go_enter Tryd.func81, Tryd.ntmps81
  go_wp2_with fail
  refine cL.mono fun e w1 ⟨he, hb⟩ => ?_
  subst he
  have cD : Calls Tryd.prog 79 #[.int .i32 c] w1 _ := Any.unicode_IsDigit_all Tryd.laysDigit c w1 h1 h2 (hD w1 hb)
  cases hl : isLetterU c with
  | true =>
    go_wp2_with fail
    go_ret
    exact ⟨by simp [partF, hl], hb⟩
  | false =>
    cases first with
    | true =>
      go_wp2_with fail
      go_ret
      exact ⟨by simp [partF, hl], hb⟩
    | false =>
      go_wp2_with fail
      refine cD.mono fun e w2 ⟨he, hb2⟩ => ?_
      subst he
      have hb3 : Below w.heap.size w w2 := hb.trans (hb2.mono hb.size)
      cases hd : isDigitU c with
      | true =>
        go_wp2_with fail
        go_ret
        exact ⟨by simp [partF, hl, hd], hb3⟩
      | false =>
        by_cases e1 : c = 45
        · subst e1
          go_wp2_with fail
          go_ret
          exact ⟨by simp [partF], hb3⟩
        by_cases e2 : c = 95
        · subst e2
          go_wp2_with fail
          go_ret
          exact ⟨by simp [partF], hb3⟩
        have b1 : (c == 45) = false := by simpa using e1
        have b2 : (c == 95) = false := by simpa using e2
        go_wp2_with fail
        go_ret
        exact ⟨by simp [partF, hl, hd, b1, b2], hb3⟩
end Seal
set_option linter.unusedVariables false
namespace Seal
open Go Go.Lib Go.Proofs Go.RowKit
structure Tabs (w : World) : Prop where
  u : Utf8Tabs 4 5 w
  p : TabIs Tryd.prog w "unicode.properties" .u8 propertiesTab
  l : RVar 1 letterT w
  d : RVar 2 digitT w
theorem Tabs.keep {w w' : World} (h : Tabs w) (hc : ∀ a v, w.cell? a = some v → w'.cell? a = some v) (hv : ∀ n v, w.var? Tryd.prog n = some v → w'.var? Tryd.prog n = some v) : Tabs w' := by
  have rv : ∀ {g : Nat} {T : RTab}, RVar g T w → RVar g T w' := by
    rintro g T ⟨Tb, oT, h1, a16, a32, R16, o16, c16, R32, o32, c32, h2, h3, h4, h5, h6, h7, h8, h9⟩
    refine ⟨Tb, oT, hc _ _ h1, a16, a32, R16, o16, c16, R32, o32, c32, hc _ _ h2, hc _ _ h3, hc _ _ h4, h5, h6, fun i hi => ?_, fun i hi => ?_, h9⟩
    · obtain ⟨x, y, z⟩ := h7 i hi
      exact ⟨hc _ _ x, hc _ _ y, hc _ _ z⟩
    · obtain ⟨x, y, z⟩ := h8 i hi
      exact ⟨hc _ _ x, hc _ _ y, hc _ _ z⟩
  exact ⟨⟨fun c h1 => hc _ _ (h.u.1 c h1), fun i hi => ⟨hc _ _ (h.u.2 i hi).1, hc _ _ (h.u.2 i hi).2⟩⟩, hv _ _ h.p, rv h.l, rv h.d⟩
theorem Tabs.below {w w' : World} (h : Tabs w) (hb : Below w.heap.size w w') : Tabs w' := by
  refine h.keep (fun a v ha => ?_) (fun n v hn => ?_)
  · have hlt : a.block < w.heap.size := by
      rcases Nat.lt_or_ge a.block w.heap.size with h | h
      · exact h
      · unfold World.cell? at ha
        rw [Array.getElem?_eq_none h] at ha; cases ha
    rw [hb.cell hlt]; exact ha
  · unfold World.var? at *
    cases hg : Tryd.prog.globalNamed n with
    | none => rw [hg] at hn; cases hn
    | some g =>
      rw [hg] at hn
      have hlt : g < w.heap.size := by
        rcases Nat.lt_or_ge g w.heap.size with h | h
        · exact h
        · have hn : (match w.heap[g]? with | some (.cells cs _ _) => some cs | _ => none) = some v := hn
          rw [Array.getElem?_eq_none h] at hn; cases hn
      show (match w'.heap[g]? with | some (.cells cs _ _) => some cs | _ => none) = some v
      rw [hb.block g hlt]; exact hn
def finF (n : Int) : Int := if n < 1 ∨ n > 24 then 41 else 0
def brF (s : ByteArray) (pos : Nat) (c : Int) : Bool := decide (c = 65533 ∧ (decodeGo (s.extract pos s.size)).2 = 1)
def badF (s : ByteArray) (pos : Nat) (n : Int) : Bool := brF s pos (Utf8.decode s pos).1 || !partF (Utf8.decode s pos).1 (n == 0)
def nmF (s : ByteArray) : Nat → Nat → Int → Int
  | 0, pos, n => finF n
  | b + 1, pos, n => if pos < s.size then (if badF s pos n then 41 else nmF s b (pos + (Utf8.decode s pos).2) (n + 1)) else finF n
theorem zTz (s : ByteArray) (b pos : Nat) (n : Int) (h : ¬ pos < s.size) : nmF s b pos n = finF n := by
  cases b with
  | zero => rfl
  | succ b => simp [nmF, h]
theorem width_pos (s : ByteArray) (pos : Nat) (h : pos < s.size) : 1 ≤ (Utf8.decode s pos).2 := by
  by_cases ha : (s[pos]'h).toNat < 128
  · rw [decode_ascii s pos h ha]
    exact Nat.le_refl _
  · exact (decode_high s pos h (by omega)).2
theorem zJo {w wr : World} {s : ByteArray} {p : Nat} (h : Below w.heap.size w wr) : Below w.heap.size w (wr.iterAt w.heap.size s p) := by
  refine h.trans ⟨rfl, rfl, rfl, ?_, fun k hk => ?_⟩
  · simp [World.iterAt]
  · simp [World.iterAt, Nat.ne_of_gt hk]
theorem zsu {k : Nat} {wr : World} {s : ByteArray} {p q : Nat} (h : wr.heap[k]? = some (.stringIter s q)) : (wr.iterAt k s p).heap[k]? = some (.stringIter s p) := by
  have := (Array.getElem?_eq_some_iff.1 h).1
  simp [World.iterAt, this]
set_option maxRecDepth 1000000 in
set_option maxHeartbeats 4000000 in
theorem zBw (s : ByteArray) (hs : s.size < 4611686018427387904) (w : World) (hT : Tabs w) : Calls Tryd.prog 64 #[.string s] w fun e w' => e = .returned (.int .i64 (nmF s s.size 0 0)) ∧ Below w.heap.size w w' := by
  go_enter Tryd.func64, Tryd.ntmps64
  go_wp2_with fail
  go_loopw [3] (fun n w' => ∃ (pos b : Nat) (k : Int), w'.heap[w.heap.size]? = some (.stringIter s pos) ∧ Below w.heap.size w w' ∧ n = .int .i64 k ∧ nmF s b pos k = nmF s s.size 0 0 ∧ s.size ≤ pos + b ∧ 0 ≤ k ∧ k ≤ pos) (fun _ w' => s.size - w'.iterPos w.heap.size)
  case atStart => exact ⟨0, s.size, 0, World.iter_heap w s 0, Below.alloc (Below.refl _ _) (Nat.le_refl _) _, rfl, rfl, by omega, by omega, by omega⟩
  case round =>
    obtain ⟨pos, b, k, hat, hbl, rfl, hc, hb, hk0, hk1⟩ := hrel
    by_cases hp : pos < s.size
    · have hnx : ∀ ty, (Instr.next (.pointer (some ⟨w.heap.size, 0, none⟩)) true ty).run Tryd.prog wr = _ := fun ty => run_next_any_at wr w.heap.size s pos ty hat hp
      have hwd := width_pos s pos hp
      have hbl2 : Below w.heap.size w (wr.iterAt w.heap.size s (pos + (Utf8.decode s pos).2)) := zJo hbl
      have hat2 : (wr.iterAt w.heap.size s (pos + (Utf8.decode s pos).2)).heap[w.heap.size]? = some (.stringIter s (pos + (Utf8.decode s pos).2)) := zsu hat
      have hle := decode_le s pos
      generalize wr.iterAt w.heap.size s (pos + (Utf8.decode s pos).2) = w1 at *
      have cB : Calls Tryd.prog 80 #[.string s, .int .i64 pos, .int .i32 (Utf8.decode s pos).1] w1 fun e w' => e = .returned (.bool (brF s pos (Utf8.decode s pos).1)) ∧ Below w1.heap.size w1 w' := zAm s pos (Nat.le_of_lt hp) (Utf8.decode s pos).1 w1 (hT.below hbl2).u
      have hlt : w.heap.size < w1.heap.size := (Array.getElem?_eq_some_iff.1 hat2).1
      obtain ⟨br, hbr⟩ : ∃ br, brF s pos (Utf8.decode s pos).1 = br := ⟨_, rfl⟩
      rw [hbr] at cB
      go_wp2_with fail
      refine cB.mono fun e w2 ⟨he, hb2⟩ => ?_
      subst he
      have hbl3 : Below w.heap.size w w2 := hbl2.trans (hb2.mono hbl2.size)
      have hat3 : w2.heap[w.heap.size]? = some (.stringIter s (pos + (Utf8.decode s pos).2)) := by rw [hb2.block _ hlt]; exact hat2
      clear hat2 hbl2 hb2 hbl
      cases br with
      | true =>
        go_wp2_with fail
        go_ret
        refine ⟨?_, hbl3⟩
        rw [← hc]
        cases b with
        | zero => omega
        | succ b => simp [nmF, hp, badF, hbr]
      | false =>
        have hT3 := hT.below hbl3
        have cP := zAw (Utf8.decode s pos).1 (k == 0) (by omega) (by omega) w2 hT3.p hT3.l (fun w' h' => (hT3.below h').d)
        obtain ⟨pr, hpr⟩ : ∃ pr, partF (Utf8.decode s pos).1 (k == 0) = pr := ⟨_, rfl⟩
        rw [hpr] at cP
        go_wp2_with fail
        refine cP.mono fun e w3 ⟨he, hb3⟩ => ?_
        subst he
        have hlt2 : w.heap.size < w2.heap.size := (Array.getElem?_eq_some_iff.1 hat3).1
        have hbl4 : Below w.heap.size w w3 := hbl3.trans (hb3.mono hbl3.size)
        have hat4 : w3.heap[w.heap.size]? = some (.stringIter s (pos + (Utf8.decode s pos).2)) := by rw [hb3.block _ hlt2]; exact hat3
        clear hat3 hbl3 hb3
        cases pr with
        | false =>
          go_wp2_with fail
          go_ret
          refine ⟨?_, hbl4⟩
          rw [← hc]
          cases b with
          | zero => omega
          | succ b => simp [nmF, hp, badF, hpr]
        | true =>
          have hk2 : k + 1 < 9223372036854775808 := by omega
          go_wp2_with fail
          go_roundw
          case rel =>
            cases b with
            | zero => omega
            | succ b =>
              refine ⟨pos + (Utf8.decode s pos).2, b, k + 1, hat4, hbl4, ?_, ?_, by omega, by omega, by omega⟩
              · rfl
              · rw [← hc]; simp [nmF, hp, badF, hbr, hpr]
          case measure =>
            simp only [World.iterPos, hat, hat4]
            omega
    · have hnx : ∀ ty, (Instr.next (.pointer (some ⟨w.heap.size, 0, none⟩)) true ty).run Tryd.prog wr = _ := fun ty => run_next_end_at wr w.heap.size s pos ty hat hp
      rw [zTz s b pos k hp] at hc
      by_cases h1 : k < 1
      · go_wp2_with fail
        go_ret
        exact ⟨by rw [← hc]; simp [finF, h1], hbl⟩
      by_cases h2 : k > 24
      · go_wp2_with fail
        go_ret
        exact ⟨by rw [← hc]; simp [finF, h2], hbl⟩
      go_wp2_with fail
      go_ret
      exact ⟨by rw [← hc]; simp [finF, h1, h2], hbl⟩
end Seal
set_option linter.unusedVariables false
namespace Seal
open Go Go.Ab Go.Lib Go.Proofs
variable {W : World}
theorem zKo {B : Nat} {σ : Ab.Loc} {h : Nat → Option Ab.Obj} {H : Ab.Heap} {w : World} (k : @Known (baseOf W) Tryd.prog B σ h H w) (hT : Tabs W) : Tabs w := hT.keep (fun a v ha => cell_base k ha) (fun n v hn => zsr k hn)
theorem ztu (hT : Tabs W) {s : ByteArray} (hs : s.size < 4611686018427387904) (H : Ab.Heap) : @OrcGood (baseOf W) Tryd.prog 64 [.string s] H (.int .i64 (nmF s s.size 0 0)) :=
  good_of_calls rfl rfl ⟨_, _, Tryd.func64, rfl⟩ fun B σ h w k => zBw s hs w (zKo k hT)
end Seal
set_option linter.unusedVariables false
set_option maxRecDepth 100000
namespace Seal
open Go Go.Lib Go.Shelf Go.Proofs Go.Proofs.YtmnbcjhjkahajaaDoor
variable {W : World}
theorem xL : RExtra Tryd.prog Tryd.laysLetter_ren := ⟨by kernel_rfl, by kernel_rfl, by kernel_rfl, by kernel_rfl, by kernel_rfl, by kernel_rfl, by kernel_rfl, by kernel_rfl⟩
theorem xD : RExtra Tryd.prog Tryd.laysDigit_ren := ⟨by kernel_rfl, by kernel_rfl, by kernel_rfl, by kernel_rfl, by kernel_rfl, by kernel_rfl, by kernel_rfl, by kernel_rfl⟩
theorem xU : U8Extra Tryd.prog Tryd.laysDecode_ren := by constructor <;> kernel_rfl
theorem zuu : (Rows.laid_unicode_utf8_acceptRanges : DataW Unit) = acceptData := by kernel_rfl
theorem zvy : (Rows.laid_unicode_properties : DataW Unit) = tabData .u8 propertiesTab := by kernel_rfl
theorem zLo {P : Program} {name : String} {k : IntKind} {zs : List Int} {g : Nat} {t e : TypeId} {n : Nat}
    (hg : P.globalNamed name = some g) (hty : (P.globals[g]?).map (·.type) = some t) (ht : P.underlying t = some (.array n e)) (he : P.underlying e = some (.int k)) (hce : P.cellsOf e = 1) (hct : P.cellsOf t = n)
    (h : VarReads P W name (tabData k zs)) : TabIs P W name k zs := by
  obtain ⟨g', t', cs, fuel, p, hg', ht', hvar, hd⟩ := h
  obtain rfl := Option.some.inj (hg.symm.trans hg')
  obtain rfl := Option.some.inj (hty.symm.trans ht')
  unfold TabIs
  rw [hvar, ← cells_of_tab ht he hce hct hd]
theorem zBn (h1 : VarReads Tryd.prog W "unicode/utf8.acceptRanges" Rows.laid_unicode_utf8_acceptRanges) (h2 : VarReads Tryd.prog W "unicode.properties" Rows.laid_unicode_properties)
    (h3 : VarReads Tryd.prog W "unicode.Digit" Rows.laid_unicode_Digit) (h4 : VarReads Tryd.prog W "unicode.Letter" Rows.laid_unicode_Letter) (h5 : VarReads Tryd.prog W "unicode/utf8.first" Rows.laid_unicode_utf8_first) : Tabs W := by
  refine ⟨?_, ?_, ?_, ?_⟩
  · rw [zuu] at h1
    have h5 : VarReads Tryd.prog W "unicode/utf8.first" Pinned.utf8First := h5
    rw [Pinned.utf8First_eq] at h5
    exact utf8Tabs_of_readsT (ρ := Tryd.laysDecode_ren) { Tryd.laysDecode with } xU h5 h1
  · rw [zvy] at h2
    exact zLo (g := 0) (t := 150) (e := 5) (n := 256) (by kernel_rfl) (by kernel_rfl) (by kernel_rfl) (by kernel_rfl) (by kernel_rfl) (by kernel_rfl) h2
  · have h4 : VarReads Tryd.prog W "unicode.Letter" Pinned.letter := h4
    rw [Pinned.letter_eq] at h4
    exact rvar_of_reads (ρ := Tryd.laysLetter_ren) { Tryd.laysLetter with } xL (by kernel_rfl) (by kernel_rfl) h4
  · have h3 : VarReads Tryd.prog W "unicode.Digit" Pinned.digit := h3
    rw [Pinned.digit_eq] at h3
    exact rvar_of_reads (ρ := Tryd.laysDigit_ren) { Tryd.laysDigit with } xD (by kernel_rfl) (by kernel_rfl) h3
end Seal
set_option linter.unusedVariables false
set_option maxRecDepth 100000
namespace Seal
open Go Go.Lib Go.Shelf Go.Proofs
variable {W : World}
def zCw (args : List Value) : Option Value := match args with
  | [.string s] => cond (Nat.blt s.size 4611686018427387904) (some (.int .i64 (nmF s s.size 0 0))) none
  | _ => none
def zls (F : Int → Bool) (args : List Value) : Option Value := match args with
  | [.int .i32 r] => cond (decide (-2147483648 ≤ r) && decide (r ≤ 2147483647)) (some (.bool (F r))) none
  | _ => none
@[reducible] def zgB : Ab.Orc := ⟨fun f args _ => cond (Nat.beq f 64) (zCw args) (cond (Nat.beq f 78) (zls isLetterU args) (cond (Nat.beq f 79) (zls isDigitU args) none))⟩
theorem zms {args : List Value} {v : Value} (h : zCw args = some v) : ∃ s, args = [.string s] ∧ s.size < 4611686018427387904 ∧ v = .int .i64 (nmF s s.size 0 0) := by
  unfold zCw at h
  split at h
  · rename_i s
    cases hb : Nat.blt s.size 4611686018427387904 with
    | false => rw [hb] at h; cases h
    | true =>
      rw [hb] at h
      cases h
      exact ⟨s, rfl, by rw [Ab.blt_eq] at hb; exact of_decide_eq_true hb, rfl⟩
  · cases h
theorem zBm {F : Int → Bool} {args : List Value} {v : Value} (h : zls F args = some v) : ∃ r, args = [.int .i32 r] ∧ -2147483648 ≤ r ∧ r ≤ 2147483647 ∧ v = .bool (F r) := by
  unfold zls at h
  split at h
  · rename_i r
    cases hb : decide (-2147483648 ≤ r) && decide (r ≤ 2147483647) with
    | false => rw [hb] at h; cases h
    | true =>
      rw [hb] at h
      cases h
      rw [Bool.and_eq_true] at hb
      exact ⟨r, rfl, of_decide_eq_true hb.1, of_decide_eq_true hb.2, rfl⟩
  · cases h
theorem zwy (hT : Tabs W) : @Ab.OrcOk (Ab.baseOf W) zgB Tryd.prog := by
  intro f args H v h
  have h : cond (Nat.beq f 64) (zCw args) (cond (Nat.beq f 78) (zls isLetterU args) (cond (Nat.beq f 79) (zls isDigitU args) none)) = some v := h
  cases h1 : Nat.beq f 64 with
  | true =>
    rw [h1] at h
    obtain rfl := Nat.eq_of_beq_eq_true h1
    obtain ⟨s, rfl, hs, rfl⟩ := zms h
    exact ztu hT hs H
  | false =>
  rw [h1] at h
  cases h2 : Nat.beq f 78 with
  | true =>
    rw [h2] at h
    obtain rfl := Nat.eq_of_beq_eq_true h2
    obtain ⟨r, rfl, a, b, rfl⟩ := zBm h
    exact zlq hT.p hT.l a b H
  | false =>
  rw [h2] at h
  cases h3 : Nat.beq f 79 with
  | true =>
    rw [h3] at h
    obtain rfl := Nat.eq_of_beq_eq_true h3
    obtain ⟨r, rfl, a, b, rfl⟩ := zBm h
    exact zjs hT.d a b H
  | false => rw [h3] at h; cases h
theorem good : Ab.goodB Tryd.prog = true := by kernel_rfl
end Seal
namespace Go.Proofs
open Go.RowKit Go.Shelf Go.Lib
set_option maxRecDepth 100000
def Tryd.laysLower_ren : Ren :=
{ f := fun x =>
    match x with
    | 204 => 68
    | 262 => 86
    | 274 => 104
    | 275 => 105
    | 313 => 97
    | n => n,
  t := fun x =>
    match x with
    | 46 => 99
    | 51 => 111
    | 160 => 175
    | 162 => 159
    | 203 => 157
    | 206 => 184
    | 208 => 186
    | n => n,
  g := fun x =>
    match x with
    | 13 => 3
    | n => n }
theorem Tryd.laysLower : Lays.n204 Tryd.prog Tryd.laysLower_ren :=
{ mixed := Eq.refl true,
  f204 := Eq.trans Tryd.func68 (congrArg some (Eq.refl (Body.n204 Tryd.laysLower_ren))),
  f262 := Eq.trans Tryd.func86 (congrArg some (Eq.refl (Body.n262 Tryd.laysLower_ren))),
  f274 := Eq.trans Tryd.func104 (congrArg some (Eq.refl (Body.n274 Tryd.laysLower_ren))),
  f275 := Eq.trans Tryd.func105 (congrArg some (Eq.refl (Body.n275 Tryd.laysLower_ren))),
  f313 := Eq.trans Tryd.func97 (congrArg some (Eq.refl (Body.n313 Tryd.laysLower_ren))),
  t0 := Tryd.underlying0,
  a0 := Tryd.isAgg0,
  z0 := Tryd.sizeOf0,
  v0 := Tryd.zeroValue0,
  t3 := Tryd.underlying3,
  a3 := Tryd.isAgg3,
  z3 := Tryd.sizeOf3,
  v3 := Tryd.zeroValue3,
  t4 := Tryd.underlying4,
  a4 := Tryd.isAgg4,
  z4 := Tryd.sizeOf4,
  v4 := Tryd.zeroValue4,
  t21 := Tryd.underlying21,
  a21 := Tryd.isAgg21,
  z21 := Tryd.sizeOf21,
  v21 := Tryd.zeroValue21,
  t46 := Tryd.underlying99,
  a46 := Tryd.isAgg99,
  z46 := Tryd.sizeOf99,
  v46 := Tryd.zeroValue99,
  t51 := Tryd.underlying111,
  a51 := Tryd.isAgg111,
  z51 := Tryd.sizeOf111,
  v51 := Tryd.zeroValue111,
  t160 := Tryd.underlying175,
  a160 := Tryd.isAgg175,
  z160 := Tryd.sizeOf175,
  v160 := Tryd.zeroValue175,
  t162 := Tryd.underlying159,
  a162 := Tryd.isAgg159,
  z162 := Tryd.sizeOf159,
  v162 := Tryd.zeroValue159,
  t203 := Tryd.underlying157,
  a203 := Tryd.isAgg157,
  z203 := Tryd.sizeOf157,
  v203 := Tryd.zeroValue157,
  t206 := Tryd.underlying184,
  a206 := Tryd.isAgg184,
  z206 := Tryd.sizeOf184,
  v206 := Tryd.zeroValue184,
  t208 := Tryd.underlying186,
  a208 := Tryd.isAgg186,
  z208 := Tryd.sizeOf186,
  v208 := Tryd.zeroValue186,
  g13 := by kernel_rfl }
def Tryd.laysWB_ren : Ren :=
{ f := fun x =>
    match x with
    | 167 => 82
    | 168 => 83
    | 240 => 95
    | 242 => 96
    | 276 => 102
    | 278 => 103
    | n => n,
  t := fun x =>
    match x with
    | 37 => 22
    | 46 => 99
    | 51 => 111
    | 70 => 128
    | 72 => 130
    | 75 => 132
    | 80 => 136
    | 164 => 173
    | n => n,
  g := fun x =>
    match x with
    | n => n }
theorem Tryd.laysWB : Lays.n167 Tryd.prog Tryd.laysWB_ren :=
{ mixed := Eq.refl true,
  f167 := Eq.trans Tryd.func82 (congrArg some (Eq.refl (Body.n167 Tryd.laysWB_ren))),
  f240 := Eq.trans Tryd.func95 (congrArg some (Eq.refl (Body.n240 Tryd.laysWB_ren))),
  f276 := Eq.trans Tryd.func102 (congrArg some (Eq.refl (Body.n276 Tryd.laysWB_ren))),
  t0 := Tryd.underlying0,
  a0 := Tryd.isAgg0,
  z0 := Tryd.sizeOf0,
  v0 := Tryd.zeroValue0,
  t4 := Tryd.underlying4,
  a4 := Tryd.isAgg4,
  z4 := Tryd.sizeOf4,
  v4 := Tryd.zeroValue4,
  t5 := Tryd.underlying5,
  a5 := Tryd.isAgg5,
  z5 := Tryd.sizeOf5,
  v5 := Tryd.zeroValue5,
  t9 := Tryd.underlying9,
  a9 := Tryd.isAgg9,
  z9 := Tryd.sizeOf9,
  v9 := Tryd.zeroValue9,
  t20 := Tryd.underlying20,
  a20 := Tryd.isAgg20,
  z20 := Tryd.sizeOf20,
  v20 := Tryd.zeroValue20,
  t37 := Tryd.underlying22,
  a37 := Tryd.isAgg22,
  z37 := Tryd.sizeOf22,
  v37 := Tryd.zeroValue22,
  t70 := Tryd.underlying128,
  a70 := Tryd.isAgg128,
  z70 := Tryd.sizeOf128,
  v70 := Tryd.zeroValue128,
  t72 := Tryd.underlying130,
  a72 := Tryd.isAgg130,
  z72 := Tryd.sizeOf130,
  v72 := Tryd.zeroValue130,
  t75 := Tryd.underlying132,
  a75 := Tryd.isAgg132,
  z75 := Tryd.sizeOf132,
  v75 := Tryd.zeroValue132,
  t164 := Tryd.underlying173,
  a164 := Tryd.isAgg173,
  z164 := Tryd.sizeOf173,
  v164 := Tryd.zeroValue173 }
def Tryd.laysWR_ren : Ren :=
{ f := fun x =>
    match x with
    | 167 => 82
    | 168 => 83
    | 240 => 95
    | 242 => 96
    | 276 => 102
    | 278 => 103
    | n => n,
  t := fun x =>
    match x with
    | 37 => 22
    | 46 => 99
    | 51 => 111
    | 70 => 128
    | 72 => 130
    | 75 => 132
    | 80 => 136
    | 164 => 173
    | n => n,
  g := fun x =>
    match x with
    | n => n }
theorem Tryd.laysWR : Lays.n168 Tryd.prog Tryd.laysWR_ren :=
{ mixed := Eq.refl true,
  f168 := Eq.trans Tryd.func83 (congrArg some (Eq.refl (Body.n168 Tryd.laysWR_ren))),
  f240 := Eq.trans Tryd.func95 (congrArg some (Eq.refl (Body.n240 Tryd.laysWR_ren))),
  f242 := Eq.trans Tryd.func96 (congrArg some (Eq.refl (Body.n242 Tryd.laysWR_ren))),
  f276 := Eq.trans Tryd.func102 (congrArg some (Eq.refl (Body.n276 Tryd.laysWR_ren))),
  f278 := Eq.trans Tryd.func103 (congrArg some (Eq.refl (Body.n278 Tryd.laysWR_ren))),
  t0 := Tryd.underlying0,
  a0 := Tryd.isAgg0,
  z0 := Tryd.sizeOf0,
  v0 := Tryd.zeroValue0,
  t3 := Tryd.underlying3,
  a3 := Tryd.isAgg3,
  z3 := Tryd.sizeOf3,
  v3 := Tryd.zeroValue3,
  t4 := Tryd.underlying4,
  a4 := Tryd.isAgg4,
  z4 := Tryd.sizeOf4,
  v4 := Tryd.zeroValue4,
  t5 := Tryd.underlying5,
  a5 := Tryd.isAgg5,
  z5 := Tryd.sizeOf5,
  v5 := Tryd.zeroValue5,
  t9 := Tryd.underlying9,
  a9 := Tryd.isAgg9,
  z9 := Tryd.sizeOf9,
  v9 := Tryd.zeroValue9,
  t20 := Tryd.underlying20,
  a20 := Tryd.isAgg20,
  z20 := Tryd.sizeOf20,
  v20 := Tryd.zeroValue20,
  t21 := Tryd.underlying21,
  a21 := Tryd.isAgg21,
  z21 := Tryd.sizeOf21,
  v21 := Tryd.zeroValue21,
  t37 := Tryd.underlying22,
  a37 := Tryd.isAgg22,
  z37 := Tryd.sizeOf22,
  v37 := Tryd.zeroValue22,
  t46 := Tryd.underlying99,
  a46 := Tryd.isAgg99,
  z46 := Tryd.sizeOf99,
  v46 := Tryd.zeroValue99,
  t51 := Tryd.underlying111,
  a51 := Tryd.isAgg111,
  z51 := Tryd.sizeOf111,
  v51 := Tryd.zeroValue111,
  t70 := Tryd.underlying128,
  a70 := Tryd.isAgg128,
  z70 := Tryd.sizeOf128,
  v70 := Tryd.zeroValue128,
  t72 := Tryd.underlying130,
  a72 := Tryd.isAgg130,
  z72 := Tryd.sizeOf130,
  v72 := Tryd.zeroValue130,
  t75 := Tryd.underlying132,
  a75 := Tryd.isAgg132,
  z75 := Tryd.sizeOf132,
  v75 := Tryd.zeroValue132,
  t164 := Tryd.underlying173,
  a164 := Tryd.isAgg173,
  z164 := Tryd.sizeOf173,
  v164 := Tryd.zeroValue173 }
def Tryd.laysStr_ren : Ren :=
{ f := fun x =>
    match x with
    | 169 => 84
    | n => n,
  t := fun x =>
    match x with
    | 37 => 22
    | 70 => 128
    | 72 => 130
    | 127 => 156
    | n => n,
  g := fun x =>
    match x with
    | n => n }
theorem Tryd.laysStr : Lays.n169 Tryd.prog Tryd.laysStr_ren :=
{ mixed := Eq.refl true,
  f169 := Eq.trans Tryd.func84 (congrArg some (Eq.refl (Body.n169 Tryd.laysStr_ren))),
  t0 := Tryd.underlying0,
  a0 := Tryd.isAgg0,
  z0 := Tryd.sizeOf0,
  v0 := Tryd.zeroValue0,
  t3 := Tryd.underlying3,
  a3 := Tryd.isAgg3,
  z3 := Tryd.sizeOf3,
  v3 := Tryd.zeroValue3,
  t9 := Tryd.underlying9,
  a9 := Tryd.isAgg9,
  z9 := Tryd.sizeOf9,
  v9 := Tryd.zeroValue9,
  t37 := Tryd.underlying22,
  a37 := Tryd.isAgg22,
  z37 := Tryd.sizeOf22,
  v37 := Tryd.zeroValue22,
  t70 := Tryd.underlying128,
  a70 := Tryd.isAgg128,
  z70 := Tryd.sizeOf128,
  v70 := Tryd.zeroValue128,
  t72 := Tryd.underlying130,
  a72 := Tryd.isAgg130,
  z72 := Tryd.sizeOf130,
  v72 := Tryd.zeroValue130,
  t127 := Tryd.underlying156,
  a127 := Tryd.isAgg156,
  z127 := Tryd.sizeOf156,
  v127 := Tryd.zeroValue156 }
theorem Tryd.extraWB : Builder.Extra Tryd.prog Tryd.laysWB_ren where
  sizeBuilder := by kernel_rfl
  liesBuilder := by kernel_rfl
  t5 := Tryd.underlying5
  a5 := Tryd.isAgg5
  z5 := Tryd.sizeOf5
  v5 := Tryd.zeroValue5
  infoByte := by kernel_rfl
  cellsByte := by kernel_rfl
  sizeByte := by kernel_rfl
  neB5 := by decide
theorem Tryd.extraWR : Builder.Extra Tryd.prog Tryd.laysWR_ren where
  sizeBuilder := by kernel_rfl
  liesBuilder := by kernel_rfl
  t5 := Tryd.underlying5
  a5 := Tryd.isAgg5
  z5 := Tryd.sizeOf5
  v5 := Tryd.zeroValue5
  infoByte := by kernel_rfl
  cellsByte := by kernel_rfl
  sizeByte := by kernel_rfl
  neB5 := by decide
theorem Tryd.extraStr : Builder.Extra Tryd.prog Tryd.laysStr_ren where
  sizeBuilder := by kernel_rfl
  liesBuilder := by kernel_rfl
  t5 := Tryd.underlying5
  a5 := Tryd.isAgg5
  z5 := Tryd.sizeOf5
  v5 := Tryd.zeroValue5
  infoByte := by kernel_rfl
  cellsByte := by kernel_rfl
  sizeByte := by kernel_rfl
  neB5 := by decide
theorem Tryd.WriteByte_k (B b : Nat) (bs : List Value) (c : Int) (w : World) (h : Lib.IsBuilderF 130 5 B b bs w) (hlen : bs.length + 1 ≤ 140737488355328) (hBw : B ≤ w.heap.size) :
    Calls Tryd.prog 82 #[.pointer (some ⟨b, 0, none⟩), .int .u8 c] w fun e w' => e = .returned .nilIface ∧ (Lib.BuilderAtF 130 5 B b (.pointer (some ⟨b, 0, none⟩)) (bs ++ [.int .u8 c]) w' ∧ Below B w w' ∧ Lib.OthersKept 5 (some b) w w') := Any.Builder_WriteByte_k Tryd.laysWB Tryd.extraWB B b bs c w h hlen hBw
theorem Tryd.WriteRune_k (B b : Nat) (bs : List Value) (r : Int) (hr0 : -2147483648 ≤ r) (hr1 : r ≤ 2147483647) (w : World) (h : Lib.IsBuilderF 130 5 B b bs w) (hlen : bs.length + 4 ≤ 140737488355328) (hBw : B ≤ w.heap.size) :
    Calls Tryd.prog 83 #[.pointer (some ⟨b, 0, none⟩), .int .i32 r] w fun e w' => e = .returned (.tuple #[.int .i64 (Lib.runeCells r).length, .nilIface]) ∧ (Lib.BuilderAtF 130 5 B b (.pointer (some ⟨b, 0, none⟩)) (bs ++ Lib.runeCells r) w' ∧ Below B w w' ∧ Lib.OthersKept 5 (some b) w w') := Any.Builder_WriteRune_k Tryd.laysWR Tryd.extraWR B b bs r hr0 hr1 w h hlen hBw
theorem Tryd.String_k (B b : Nat) (l : List UInt8) (w : World) (h : Lib.IsBuilderF 130 5 B b (Lib.byteCells l) w) (hBw : B ≤ w.heap.size) :
    Calls Tryd.prog 84 #[.pointer (some ⟨b, 0, none⟩)] w fun e w' => e = .returned (.string ⟨l.toArray⟩) ∧ (Lib.IsBuilderF 130 5 B b (Lib.byteCells l) w' ∧ Below B w w' ∧ Lib.OthersKept 5 (some b) w w') := Any.Builder_String_any_k Tryd.laysStr Tryd.extraStr B b l w h hBw
theorem Tryd.ToLower_k (r : Int) (w : World) (hV : CaseVar 3 caseA w) :
    Calls Tryd.prog 68 #[.int .i32 r] w fun e w' => e = .returned (.int .i32 (toLowerU r)) ∧ ∃ q, w' = w.drewN q := Any.unicode_ToLower_laid Tryd.laysLower r w hV
end Go.Proofs
set_option linter.unusedVariables false
namespace Seal
open Go Go.Lib Go.Proofs Go.RowKit
structure Tabs2 (w : World) : Prop where
  t : Tabs w
  c : CaseVar 3 caseA w
theorem Tabs2.below {w w' : World} (h : Tabs2 w) (hb : Below w.heap.size w w') : Tabs2 w' := by
  refine ⟨h.t.below hb, ?_⟩
  have kc : ∀ a v, w.cell? a = some v → w'.cell? a = some v := fun a v ha => by
    have hlt : a.block < w.heap.size := by
      rcases Nat.lt_or_ge a.block w.heap.size with h | h
      · exact h
      · unfold World.cell? at ha
        rw [Array.getElem?_eq_none h] at ha; cases ha
    rw [hb.cell hlt]; exact ha
  obtain ⟨R, oR, cap, h1, h2⟩ := h.c
  refine ⟨R, oR, cap, kc _ _ h1, fun i hi => ?_⟩
  obtain ⟨a1, a2, a3, a4, a5⟩ := h2 i hi
  exact ⟨kc _ _ a1, kc _ _ a2, kc _ _ a3, kc _ _ a4, kc _ _ a5⟩
theorem zmq (r : Int) (h0 : 0 ≤ r) (h1 : r ≤ 2147483647) : -2147483648 ≤ toLowerU r ∧ toLowerU r ≤ 2147483647 := by
  rw [← toLowerW_caseA]
  unfold Go.Proofs.Lib.toLowerW
  split
  · split <;> omega
  · unfold toW
    split
    · unfold wrap32; omega
    · omega
def foldR (s : ByteArray) (pos : Nat) : List UInt8 := if brF s pos (Utf8.decode s pos).1 then [s.get! pos] else encodeRune (toLowerU (Utf8.decode s pos).1)
def foldG (s : ByteArray) : Nat → Nat → List UInt8
  | 0, _ => []
  | f + 1, pos => if pos < s.size then foldR s pos ++ foldG s f (pos + (Utf8.decode s pos).2) else []
theorem zvu (s : ByteArray) (f pos : Nat) (h : ¬ pos < s.size) : foldG s f pos = [] := by
  cases f with
  | zero => rfl
  | succ f => simp [foldG, h]
def foldF (s : ByteArray) : ByteArray := ⟨(foldG s s.size 0).toArray⟩
theorem znq (w : World) (q : Nat) : Below w.heap.size w (w.drewN q) := ⟨rfl, rfl, rfl, Nat.le_refl _, fun _ _ => rfl⟩
theorem zMo (r : Int) (w : World) (hV : CaseVar 3 caseA w) : Calls Tryd.prog 68 #[.int .i32 r] w fun e w' => e = .returned (.int .i32 (toLowerU r)) ∧ Below w.heap.size w w' :=
  (Tryd.ToLower_k r w hV).mono fun e w' ⟨he, q, hw⟩ => ⟨he, hw ▸ znq w q⟩
set_option maxHeartbeats 4000000 in
set_option maxRecDepth 1000000 in
theorem zDw (s : ByteArray) (w : World) (hT : Tabs2 w) (hs : s.size ≤ 35184372088832) :
    Calls Tryd.prog 65 #[.string s] w fun e w' => e = .returned (.string (foldF s)) ∧ Below w.heap.size w w' := by
  go_enter Tryd.func65, Tryd.ntmps65
  go_wp2
  go_loopw [] (fun wr => ∃ (pos fuel : Nat) (acc : List UInt8), Lib.IsBuilderF 130 5 w.heap.size w.heap.size (Lib.byteCells acc) wr ∧ wr.heap[w.heap.size + 1]? = some (.stringIter s pos) ∧ Below w.heap.size w wr ∧ acc ++ foldG s fuel pos = foldG s s.size 0 ∧ s.size ≤ pos + fuel ∧ acc.length ≤ 4 * pos) (fun wr => s.size - wr.iterPos (w.heap.size + 1))
  case atStart =>
    refine ⟨0, s.size, [], (Lib.IsBuilderF.of (Lib.fresh_isBuilder 130 5 w)).alloc _, ?_, ((Below.refl _ w).alloc (Nat.le_refl _) _).alloc (by simp) _, rfl, by omega, by simp⟩
    have := World.iter_heap (w.alloc (.cells #[.pointer none, .slice none 0 0] 130)) s 0
    simpa using this
  case round =>
    obtain ⟨pos, fuel, acc, hI, hit, hbw, hacc, hfu, hal⟩ := hrel
    have hsz : w.heap.size + 1 < wr.heap.size := (Array.getElem?_eq_some_iff.1 hit).1
    by_cases hp : pos < s.size
    · have hnx : ∀ ty, (Instr.next (.pointer (some ⟨w.heap.size + 1, 0, none⟩)) true ty).run Tryd.prog wr = _ := fun ty => Lib.run_next_any_at wr (w.heap.size + 1) s pos ty hit hp
      have hwd := width_pos s pos hp
      have hd1 := decode_le s pos
      have hI2 := hI.iterAt hit (pos + (Utf8.decode s pos).2)
      have hit2 := Lib.iterAt_heap wr (w.heap.size + 1) s pos (pos + (Utf8.decode s pos).2) hit
      have hbw2 := Lib.below_iterAt hbw (k := w.heap.size + 1) (by omega) s (pos + (Utf8.decode s pos).2)
      have hsz2 : w.heap.size ≤ (wr.iterAt (w.heap.size + 1) s (pos + (Utf8.decode s pos).2)).heap.size := by rw [Lib.iterAt_size]; omega
      obtain ⟨f, rfl⟩ : ∃ f, fuel = f + 1 := ⟨fuel - 1, by omega⟩
      generalize wr.iterAt (w.heap.size + 1) s (pos + (Utf8.decode s pos).2) = w1 at *
      have hT1 : Tabs2 w1 := hT.below hbw2
      have hlt : w.heap.size + 1 < w1.heap.size := (Array.getElem?_eq_some_iff.1 hit2).1
      have cB : Calls Tryd.prog 80 #[.string s, .int .i64 pos, .int .i32 (Utf8.decode s pos).1] w1 fun e w' => e = .returned (.bool (brF s pos (Utf8.decode s pos).1)) ∧ Below w1.heap.size w1 w' := zAm s pos (Nat.le_of_lt hp) (Utf8.decode s pos).1 w1 hT1.t.u
      obtain ⟨br, hbr⟩ : ∃ br, brF s pos (Utf8.decode s pos).1 = br := ⟨_, rfl⟩
      rw [hbr] at cB
      go_wp2_with fail
      refine cB.mono fun e w2 ⟨he, hb2⟩ => ?_
      subst he
      have hbw3 : Below w.heap.size w w2 := hbw2.trans (hb2.mono hbw2.size)
      have hit3 : w2.heap[w.heap.size + 1]? = some (.stringIter s (pos + (Utf8.decode s pos).2)) := by rw [hb2.block _ hlt]; exact hit2
      have hI3 := hI2.below hb2
      have hT2 : Tabs2 w2 := hT.below hbw3
      have hsz3 : w.heap.size ≤ w2.heap.size := hbw3.size
      clear hit2 hbw2 hb2 hI2 cB hT1
      cases br with
      | true =>
        go_wp2_with (go_at_call 82; refine (Tryd.WriteByte_k w.heap.size w.heap.size _ _ _ hI3 (by rw [Lib.byteCells_length]; omega) hsz3).mono ?_)
        rintro e W1 ⟨rfl, h1, b1, k1⟩
        go_wp2
        go_roundw
        case rel =>
          refine ⟨pos + (Utf8.decode s pos).2, f, acc ++ [s.get! pos], ?_, k1.iter hit3 (by omega), hbw3.trans b1, ?_, by omega, by simp; omega⟩
          · rw [Lib.byteCells_append]
            have eg : s.get! pos = s[pos]'hp := by cases s with | mk d => exact getElem!_pos d pos hp
            rw [eg]
            exact Or.inr h1
          · rw [← hacc]; simp [foldG, hp, foldR, hbr]
        case measure =>
          simp only [World.iterPos, k1.iter hit3 (by omega), hit]
          omega
      | false =>
        have hlo := zmq (Utf8.decode s pos).1 (by omega) (by omega)
        have cL := zMo (Utf8.decode s pos).1 w2 hT2.c
        go_wp2_with fail
        refine cL.mono fun e w3 ⟨he, hb3⟩ => ?_
        subst he
        have hlt3 : w.heap.size + 1 < w2.heap.size := (Array.getElem?_eq_some_iff.1 hit3).1
        have hbw4 : Below w.heap.size w w3 := hbw3.trans (hb3.mono hbw3.size)
        have hit4 : w3.heap[w.heap.size + 1]? = some (.stringIter s (pos + (Utf8.decode s pos).2)) := by rw [hb3.block _ hlt3]; exact hit3
        have hI4 := hI3.below hb3
        have hsz4 : w.heap.size ≤ w3.heap.size := hbw4.size
        clear hit3 hbw3 hb3 hI3 cL hT2
        go_wp2_with (go_at_call 83; refine (Tryd.WriteRune_k w.heap.size w.heap.size _ _ hlo.1 hlo.2 _ hI4 (by rw [Lib.byteCells_length]; omega) hsz4).mono ?_)
        rintro e W1 ⟨rfl, h1, b1, k1⟩
        go_wp2
        go_roundw
        case rel =>
          have hl4 := Lib.runeCells_le (toLowerU ((Utf8.decode s pos).1 : Int))
          rw [Lib.runeCells_length] at hl4
          refine ⟨pos + (Utf8.decode s pos).2, f, acc ++ Lib.encodeRune (toLowerU (Utf8.decode s pos).1), ?_, k1.iter hit4 (by omega), hbw4.trans b1, ?_, by omega, by simp; omega⟩
          · rw [Lib.byteCells_append, Lib.byteCells_encodeRune]; exact Or.inr h1
          · rw [← hacc]; simp [foldG, hp, foldR, hbr]
        case measure =>
          simp only [World.iterPos, k1.iter hit4 (by omega), hit]
          omega
    · have hnx : ∀ ty, (Instr.next (.pointer (some ⟨w.heap.size + 1, 0, none⟩)) true ty).run Tryd.prog wr = _ := fun ty => Lib.run_next_end_at wr (w.heap.size + 1) s pos ty hit hp
      go_wp2_with (go_at_call 84; refine (Tryd.String_k w.heap.size w.heap.size acc _ hI (by omega)).mono ?_)
      rintro e W1 ⟨rfl, _, b1, _⟩
      go_wp2
      go_ret
      rw [zvu s fuel pos hp, List.append_nil] at hacc
      subst hacc
      exact ⟨rfl, hbw.trans b1⟩
end Seal
set_option linter.unusedVariables false
set_option maxRecDepth 100000
namespace Seal
open Go Go.Lib Go.Shelf Go.Proofs Go.Proofs.YtmnbcjhjkahajaaDoor
variable {W : World}
theorem tabs2_of_reads (h1 : VarReads Tryd.prog W "unicode/utf8.acceptRanges" Rows.laid_unicode_utf8_acceptRanges) (h2 : VarReads Tryd.prog W "unicode.properties" Rows.laid_unicode_properties)
    (h3 : VarReads Tryd.prog W "unicode.CaseRanges" Rows.laid_unicode_CaseRanges) (h4 : VarReads Tryd.prog W "unicode.Digit" Rows.laid_unicode_Digit) (h5 : VarReads Tryd.prog W "unicode.Letter" Rows.laid_unicode_Letter) (h6 : VarReads Tryd.prog W "unicode/utf8.first" Rows.laid_unicode_utf8_first) : Tabs2 W := by
  refine ⟨zBn h1 h2 h4 h5 h6, ?_⟩
  have h3 : VarReads Tryd.prog W "unicode.CaseRanges" Pinned.caseRanges := h3
  rw [Pinned.caseRanges_eq] at h3
  exact caseVar_of_reads (ρ := Tryd.laysLower_ren) { Tryd.laysLower with } (by kernel_rfl) (by constructor <;> kernel_rfl) h3
theorem zNo {P : Program} {B : Nat} {σ : Ab.Loc} {h : Nat → Option Ab.Obj} {H : Ab.Heap} {w W : World} (k : @Ab.Known (Ab.baseOf W) P B σ h H w) {g : Nat} {T : Array CaseRow} (hV : CaseVar g T W) : CaseVar g T w := by
  obtain ⟨R, oR, cap, h1, h2⟩ := hV
  refine ⟨R, oR, cap, Ab.cell_base k h1, fun i hi => ?_⟩
  obtain ⟨a1, a2, a3, a4, a5⟩ := h2 i hi
  exact ⟨Ab.cell_base k a1, Ab.cell_base k a2, Ab.cell_base k a3, Ab.cell_base k a4, Ab.cell_base k a5⟩
theorem zns {B : Nat} {σ : Ab.Loc} {h : Nat → Option Ab.Obj} {H : Ab.Heap} {w W : World} (k : @Ab.Known (Ab.baseOf W) Tryd.prog B σ h H w) (hT : Tabs2 W) : Tabs2 w := ⟨zKo k hT.t, zNo k hT.c⟩
theorem zwu (hT : Tabs2 W) {s : ByteArray} (hs : s.size ≤ 35184372088832) (H : Ab.Heap) : @Ab.OrcGood (Ab.baseOf W) Tryd.prog 65 [.string s] H (.string (foldF s)) :=
  Ab.good_of_calls rfl rfl ⟨_, _, Tryd.func65, rfl⟩ fun B σ h w k => zDw s w (zns k hT) hs
theorem zos (hT : Tabs2 W) (r : Int) (H : Ab.Heap) : @Ab.OrcGood (Ab.baseOf W) Tryd.prog 68 [.int .i32 r] H (.int .i32 (toLowerU r)) :=
  Ab.good_of_calls rfl rfl ⟨_, _, Tryd.func68, rfl⟩ fun B σ h w k => zMo r w (zNo k hT.c)
def zEw (args : List Value) : Option Value := match args with
  | [.string s] => cond (Nat.ble s.size 35184372088832) (some (.string (foldF s))) none
  | _ => none
def zUA (args : List Value) : Option Value := match args with
  | [.int .i32 r] => some (.int .i32 (toLowerU r))
  | _ => none
abbrev orcS2 : Ab.Orc := ⟨fun f args H => cond (Nat.beq f 65) (zEw args) (cond (Nat.beq f 68) (zUA args) (zgB.tab f args H))⟩
theorem zps {args : List Value} {v : Value} (h : zEw args = some v) : ∃ s, args = [.string s] ∧ s.size ≤ 35184372088832 ∧ v = .string (foldF s) := by
  unfold zEw at h
  split at h
  · rename_i s
    cases hb : Nat.ble s.size 35184372088832 with
    | false => rw [hb] at h; cases h
    | true =>
      rw [hb] at h
      cases h
      exact ⟨s, rfl, Nat.le_of_ble_eq_true hb, rfl⟩
  · cases h
theorem zxu {args : List Value} {v : Value} (h : zUA args = some v) : ∃ r, args = [.int .i32 r] ∧ v = .int .i32 (toLowerU r) := by
  unfold zUA at h
  split at h
  · cases h; exact ⟨_, rfl, rfl⟩
  · cases h
theorem orcS2_ok (hT : Tabs2 W) : @Ab.OrcOk (Ab.baseOf W) orcS2 Tryd.prog := by
  intro f args H v h
  have h : cond (Nat.beq f 65) (zEw args) (cond (Nat.beq f 68) (zUA args) (zgB.tab f args H)) = some v := h
  cases h1 : Nat.beq f 65 with
  | true =>
    rw [h1] at h
    obtain rfl := Nat.eq_of_beq_eq_true h1
    obtain ⟨s, rfl, hs, rfl⟩ := zps h
    exact zwu hT hs H
  | false =>
  rw [h1] at h
  cases h2 : Nat.beq f 68 with
  | true =>
    rw [h2] at h
    obtain rfl := Nat.eq_of_beq_eq_true h2
    obtain ⟨r, rfl, rfl⟩ := zxu h
    exact zos hT r H
  | false =>
  rw [h2] at h
  exact zwy hT.t f args H v h
end Seal
