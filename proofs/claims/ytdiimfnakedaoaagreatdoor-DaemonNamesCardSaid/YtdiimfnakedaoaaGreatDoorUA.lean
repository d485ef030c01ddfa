/- texts of the proof, one behind the other -/
import Derived.Test.YtdiimfnakedaoaaGreatDoorProg
import Derived.WalkKit
import Derived.KernelRfl
import Derived.Shelf.Unicode.PredsPay
import Derived.Shelf.Unicode.DecodeAny
import Derived.Lib.OthersKept
import Derived.Test.YtdiimfnakedaoaaGreatDoorRows
import Derived.PinnedBridge
import Derived.Lib.LaidU8T
import Derived.Lib.LaidRTab
import Derived.Lib.LaidTab
import Derived.BigCall
import Derived.Shelf.Strings.BuilderK
import Derived.Shelf.Strings.BuilderRune
import Derived.Shelf.Unicode.CaseLaid
import Derived.Lib.RuneBytes
import Derived.Shelf.Strings.MapGrows
import Derived.Lib.LaidCase
import Derived.Test.YtdiimfnakedaoaaGreatDoorAbE
set_option linter.unusedVariables false
set_option linter.unusedSimpArgs false
set_option linter.unusedSectionVars false
namespace Go.Proofs
open Go.RowKit Go.Shelf Go.Lib
set_option maxRecDepth 100000
def Tryz.laysDigit_ren : Ren :=
{
  f := fun x =>
    match x with
    | 198 => 146
    | 261 => 210
    | 311 => 262
    | 312 => 263
    | n => n,
  t := fun x =>
    match x with
    | 21 => 21
    | 4 => 4
    | 141 => 342
    | 0 => 0
    | 196 => 392
    | 193 => 389
    | 3 => 3
    | 51 => 336
    | 198 => 395
    | 49 => 393
    | 194 => 390
    | 201 => 398
    | 226 => 422
    | 46 => 143
    | 227 => 423
    | n => n,
  g := fun x =>
    match x with
    | 5 => 3
    | n => n }
def Tryz.laysLetter_ren : Ren :=
{
  f := fun x =>
    match x with
    | 200 => 145
    | 261 => 210
    | 311 => 262
    | 312 => 263
    | n => n,
  t := fun x =>
    match x with
    | 21 => 21
    | 4 => 4
    | 51 => 336
    | 5 => 5
    | 119 => 340
    | 0 => 0
    | 141 => 342
    | 196 => 392
    | 193 => 389
    | 3 => 3
    | 198 => 395
    | 49 => 393
    | 194 => 390
    | 201 => 398
    | 226 => 422
    | 46 => 143
    | 227 => 423
    | n => n,
  g := fun x =>
    match x with
    | 7 => 1
    | 8 => 2
    | n => n }
def Tryz.laysDecode_ren : Ren :=
{
  f := fun x =>
    match x with
    | 197 => 141
    | 260 => 206
    | n => n,
  t := fun x =>
    match x with
    | 9 => 9
    | 21 => 21
    | 3 => 3
    | 4 => 4
    | 5 => 5
    | 105 => 266
    | 119 => 340
    | 0 => 0
    | 46 => 143
    | 139 => 385
    | 138 => 384
    | n => n,
  g := fun x =>
    match x with
    | 3 => 4
    | 4 => 5
    | n => n }
theorem Tryz.laysLetter : Lays.n200 Tryz.prog Tryz.laysLetter_ren :=
{ mixed := Eq.refl true, f200 := Eq.trans Tryz.func145 (congrArg some (Eq.refl (Body.n200 Tryz.laysLetter_ren))),
  f261 := Eq.trans Tryz.func210 (congrArg some (Eq.refl (Body.n261 Tryz.laysLetter_ren))),
  f311 := Eq.trans Tryz.func262 (congrArg some (Eq.refl (Body.n311 Tryz.laysLetter_ren))),
  f312 := Eq.trans Tryz.func263 (congrArg some (Eq.refl (Body.n312 Tryz.laysLetter_ren))), t0 := Tryz.underlying0,
  a0 := Tryz.isAgg0, z0 := Tryz.sizeOf0, v0 := Tryz.zeroValue0, t3 := Tryz.underlying3, a3 := Tryz.isAgg3,
  z3 := Tryz.sizeOf3, v3 := Tryz.zeroValue3, t4 := Tryz.underlying4, a4 := Tryz.isAgg4, z4 := Tryz.sizeOf4,
  v4 := Tryz.zeroValue4, t5 := Tryz.underlying5, a5 := Tryz.isAgg5, z5 := Tryz.sizeOf5, v5 := Tryz.zeroValue5,
  t21 := Tryz.underlying21, a21 := Tryz.isAgg21, z21 := Tryz.sizeOf21, v21 := Tryz.zeroValue21,
  t46 := Tryz.underlying143, a46 := Tryz.isAgg143, z46 := Tryz.sizeOf143, v46 := Tryz.zeroValue143,
  t49 := Tryz.underlying393, a49 := Tryz.isAgg393, z49 := Tryz.sizeOf393, v49 := Tryz.zeroValue393,
  t51 := Tryz.underlying336, a51 := Tryz.isAgg336, z51 := Tryz.sizeOf336, v51 := Tryz.zeroValue336,
  t119 := Tryz.underlying340, a119 := Tryz.isAgg340, z119 := Tryz.sizeOf340, t141 := Tryz.underlying342,
  a141 := Tryz.isAgg342, z141 := Tryz.sizeOf342, v141 := Tryz.zeroValue342, t193 := Tryz.underlying389,
  a193 := Tryz.isAgg389, z193 := Tryz.sizeOf389, v193 := Tryz.zeroValue389, t194 := Tryz.underlying390,
  a194 := Tryz.isAgg390, z194 := Tryz.sizeOf390, v194 := Tryz.zeroValue390, t196 := Tryz.underlying392,
  a196 := Tryz.isAgg392, z196 := Tryz.sizeOf392, v196 := Tryz.zeroValue392, t198 := Tryz.underlying395,
  a198 := Tryz.isAgg395, z198 := Tryz.sizeOf395, v198 := Tryz.zeroValue395, t201 := Tryz.underlying398,
  a201 := Tryz.isAgg398, z201 := Tryz.sizeOf398, v201 := Tryz.zeroValue398, t226 := Tryz.underlying422,
  a226 := Tryz.isAgg422, z226 := Tryz.sizeOf422, v226 := Tryz.zeroValue422, t227 := Tryz.underlying423,
  a227 := Tryz.isAgg423, z227 := Tryz.sizeOf423, v227 := Tryz.zeroValue423,
  g7 := (by kernel_rfl), g8 := (by kernel_rfl) }
theorem Tryz.laysDigit : Lays.n198 Tryz.prog Tryz.laysDigit_ren :=
{ mixed := Eq.refl true, f198 := Eq.trans Tryz.func146 (congrArg some (Eq.refl (Body.n198 Tryz.laysDigit_ren))),
  f261 := Eq.trans Tryz.func210 (congrArg some (Eq.refl (Body.n261 Tryz.laysDigit_ren))),
  f311 := Eq.trans Tryz.func262 (congrArg some (Eq.refl (Body.n311 Tryz.laysDigit_ren))),
  f312 := Eq.trans Tryz.func263 (congrArg some (Eq.refl (Body.n312 Tryz.laysDigit_ren))), t0 := Tryz.underlying0,
  a0 := Tryz.isAgg0, z0 := Tryz.sizeOf0, v0 := Tryz.zeroValue0, t3 := Tryz.underlying3, a3 := Tryz.isAgg3,
  z3 := Tryz.sizeOf3, v3 := Tryz.zeroValue3, t4 := Tryz.underlying4, a4 := Tryz.isAgg4, z4 := Tryz.sizeOf4,
  v4 := Tryz.zeroValue4, t21 := Tryz.underlying21, a21 := Tryz.isAgg21, z21 := Tryz.sizeOf21, v21 := Tryz.zeroValue21,
  t46 := Tryz.underlying143, a46 := Tryz.isAgg143, z46 := Tryz.sizeOf143, v46 := Tryz.zeroValue143,
  t49 := Tryz.underlying393, a49 := Tryz.isAgg393, z49 := Tryz.sizeOf393, v49 := Tryz.zeroValue393,
  t51 := Tryz.underlying336, a51 := Tryz.isAgg336, z51 := Tryz.sizeOf336, v51 := Tryz.zeroValue336,
  t141 := Tryz.underlying342, a141 := Tryz.isAgg342, z141 := Tryz.sizeOf342, v141 := Tryz.zeroValue342,
  t193 := Tryz.underlying389, a193 := Tryz.isAgg389, z193 := Tryz.sizeOf389, v193 := Tryz.zeroValue389,
  t194 := Tryz.underlying390, a194 := Tryz.isAgg390, z194 := Tryz.sizeOf390, v194 := Tryz.zeroValue390,
  t196 := Tryz.underlying392, a196 := Tryz.isAgg392, z196 := Tryz.sizeOf392, v196 := Tryz.zeroValue392,
  t198 := Tryz.underlying395, a198 := Tryz.isAgg395, z198 := Tryz.sizeOf395, v198 := Tryz.zeroValue395,
  t201 := Tryz.underlying398, a201 := Tryz.isAgg398, z201 := Tryz.sizeOf398, v201 := Tryz.zeroValue398,
  t226 := Tryz.underlying422, a226 := Tryz.isAgg422, z226 := Tryz.sizeOf422, v226 := Tryz.zeroValue422,
  t227 := Tryz.underlying423, a227 := Tryz.isAgg423, z227 := Tryz.sizeOf423, v227 := Tryz.zeroValue423,
  g5 := (by kernel_rfl) }
theorem Tryz.laysDecode : Lays.n197 Tryz.prog Tryz.laysDecode_ren :=
{ mixed := Eq.refl true, f197 := Eq.trans Tryz.func141 (congrArg some (Eq.refl (Body.n197 Tryz.laysDecode_ren))),
  f260 := Eq.trans Tryz.func206 (congrArg some (Eq.refl (Body.n260 Tryz.laysDecode_ren))), t0 := Tryz.underlying0,
  a0 := Tryz.isAgg0, z0 := Tryz.sizeOf0, v0 := Tryz.zeroValue0, t3 := Tryz.underlying3, a3 := Tryz.isAgg3,
  z3 := Tryz.sizeOf3, v3 := Tryz.zeroValue3, t4 := Tryz.underlying4, a4 := Tryz.isAgg4, z4 := Tryz.sizeOf4,
  v4 := Tryz.zeroValue4, t5 := Tryz.underlying5, a5 := Tryz.isAgg5, z5 := Tryz.sizeOf5, v5 := Tryz.zeroValue5,
  t9 := Tryz.underlying9, a9 := Tryz.isAgg9, z9 := Tryz.sizeOf9, v9 := Tryz.zeroValue9, t21 := Tryz.underlying21,
  a21 := Tryz.isAgg21, z21 := Tryz.sizeOf21, v21 := Tryz.zeroValue21, t46 := Tryz.underlying143, a46 := Tryz.isAgg143,
  z46 := Tryz.sizeOf143, v46 := Tryz.zeroValue143, t105 := Tryz.underlying266, a105 := Tryz.isAgg266,
  z105 := Tryz.sizeOf266, v105 := Tryz.zeroValue266, t119 := Tryz.underlying340, a119 := Tryz.isAgg340,
  z119 := Tryz.sizeOf340, t138 := Tryz.underlying384, a138 := Tryz.isAgg384, z138 := Tryz.sizeOf384,
  v138 := Tryz.zeroValue384, t139 := Tryz.underlying385, a139 := Tryz.isAgg385, z139 := Tryz.sizeOf385,
  v139 := Tryz.zeroValue385, g3 := (by kernel_rfl),
  g4 := (by kernel_rfl) }
end Go.Proofs
set_option linter.unusedVariables false
set_option maxRecDepth 100000
namespace Go.Ab
open Go Go.Lib
variable {P : Program} {B : Nat} {σ : Loc} {h : Nat → Option Obj} {H : Heap} {w W : World}
theorem cell_base (k : @Known (baseOf W) P B σ h H w) {a : Addr} {v : Value} (hc : W.cell? a = some v) : w.cell? a = some v := by
  letI := baseOf W
  have hlt : a.block < W.heap.size := by
    rcases Nat.lt_or_ge a.block W.heap.size with h | h
    · exact h
    · unfold World.cell? at hc
      rw [Array.getElem?_eq_none h] at hc; cases hc
  have e : w.heap[a.block]? = W.heap[a.block]? := k.base _ (Nat.lt_of_lt_of_le hlt k.lo)
  unfold World.cell? at *
  rw [e]; exact hc
theorem var_base (k : @Known (baseOf W) P B σ h H w) {n : String} {v : Array Value} (hc : W.var? P n = some v) : w.var? P n = some v := by
  letI := baseOf W
  unfold World.var? at *
  cases hg : P.globalNamed n with
  | none => rw [hg] at hc; cases hc
  | some g =>
    rw [hg] at hc
    have hlt : g < W.heap.size := by
      rcases Nat.lt_or_ge g W.heap.size with h | h
      · exact h
      · have hc : (match W.heap[g]? with | some (.cells cs _ _) => some cs | _ => none) = some v := hc
        rw [Array.getElem?_eq_none h] at hc; cases hc
    have e : w.heap[g]? = W.heap[g]? := k.base _ (Nat.lt_of_lt_of_le hlt k.lo)
    show (match w.heap[g]? with | some (.cells cs _ _) => some cs | _ => none) = some v
    rw [e]; exact hc
theorem tab_base (k : @Known (baseOf W) P B σ h H w) {n : String} {kd : IntKind} {zs : List Int} (hT : TabIs P W n kd zs) : TabIs P w n kd zs := var_base k hT
theorem rvar_base (k : @Known (baseOf W) P B σ h H w) {g : Nat} {T : RTab} (hV : RVar g T W) : RVar g T w := by
  obtain ⟨Tb, oT, h1, a16, a32, R16, o16, c16, R32, o32, c32, h2, h3, h4, h5, h6, h7, h8, h9⟩ := hV
  refine ⟨Tb, oT, cell_base k h1, a16, a32, R16, o16, c16, R32, o32, c32, cell_base k h2, cell_base k h3, cell_base k h4, h5, h6, fun i hi => ?_, fun i hi => ?_, h9⟩
  · obtain ⟨x, y, z⟩ := h7 i hi
    exact ⟨cell_base k x, cell_base k y, cell_base k z⟩
  · obtain ⟨x, y, z⟩ := h8 i hi
    exact ⟨cell_base k x, cell_base k y, cell_base k z⟩
theorem good_of_calls {f : FuncId} {args : List Value} {v : Value} (ha : args.all flat2 = true) (hv : flat3 v = true) (hf : ∃ fn c, P.funcs[f]? = some fn ∧ fn.body = some c)
    (hc : ∀ (B : Nat) (σ : Loc) (h : Nat → Option Obj) (w : World), @Known (baseOf W) P B σ h H w → Calls P f args.toArray w fun e w' => e = .returned v ∧ RowKit.Below w.heap.size w w') : @OrcGood (baseOf W) P f args H v := by
  intro B σ h w args' k hva
  have e : args' = args.toArray := Array.ext' (by rw [hva.flat2 ha])
  subst e
  refine ⟨hf, CallsIn.mono (callsIn_wide.2 (hc B σ h w k)) ?_⟩
  rintro e w' ⟨rfl, hb⟩
  exact ⟨v, rfl, flat3_VR hv, hb⟩
end Go.Ab
namespace Seal
open Go Go.Ab Go.Lib Go.Proofs
variable {W : World}
theorem letter_good (hT : TabIs Tryz.prog W "unicode.properties" .u8 propertiesTab) (hV : RVar 2 letterT W) {r : Int} (h1 : -2147483648 ≤ r) (h2 : r ≤ 2147483647) (H : Heap) : @OrcGood (baseOf W) Tryz.prog 145 [.int .i32 r] H (.bool (isLetterU r)) :=
  good_of_calls rfl rfl ⟨_, _, Tryz.func145, rfl⟩ fun B σ h w k => Any.unicode_IsLetter_all Tryz.laysLetter (by kernel_rfl) r w h1 h2 (tab_base k hT) (rvar_base k hV)
theorem digit_good (hV : RVar 3 digitT W) {r : Int} (h1 : -2147483648 ≤ r) (h2 : r ≤ 2147483647) (H : Heap) : @OrcGood (baseOf W) Tryz.prog 146 [.int .i32 r] H (.bool (isDigitU r)) :=
  good_of_calls rfl rfl ⟨_, _, Tryz.func146, rfl⟩ fun B σ h w k => Any.unicode_IsDigit_all Tryz.laysDigit r w h1 h2 (rvar_base k hV)
end Seal
set_option linter.unusedVariables false
namespace Seal
open Go Go.Lib Go.Proofs Go.RowKit
set_option maxRecDepth 1000000 in
theorem broken_no (s : ByteArray) (a c : Int) (hc : c ≠ 65533) (w : World) : Calls Tryz.prog 85 #[.string s, .int .i64 a, .int .i32 c] w fun e w' => e = .returned (.bool false) ∧ w' = w := by
  have h : (c != 65533) = true := by simp [hc]
  go_enter Tryz.func85, Tryz.ntmps85
  go_wp2
  go_ret
  exact ⟨rfl, rfl⟩
set_option maxRecDepth 1000000 in
theorem broken_yes (s : ByteArray) (a : Nat) (ha : a ≤ s.size) (w : World) (hT : Utf8Tabs 4 5 w) : Calls Tryz.prog 85 #[.string s, .int .i64 a, .int .i32 65533] w fun e w' => e = .returned (.bool (decide ((decodeGo (s.extract a s.size)).2 = 1))) ∧ Below w.heap.size w w' := by
  have cD : Calls Tryz.prog 141 #[.string (s.extract a s.size)] w _ := Any.utf8_DecodeRuneInString Tryz.laysDecode (s.extract a s.size) w hT
  have h1 : (0 : Int) ≤ a := by omega
  have h2 : (a : Int) ≤ s.size := by omega
  go_enter Tryz.func85, Tryz.ntmps85
  go_wp2_with fail
  refine cD.mono fun e w1 ⟨he, hb⟩ => ?_
  subst he
  go_wp2_with fail
  go_ret
  refine ⟨?_, hb⟩
  show Ending.returned (.bool (((decodeGo (s.extract a s.size)).2 : Int) == 1)) = _
  have e : (((decodeGo (s.extract a s.size)).2 : Int) == 1) = decide ((decodeGo (s.extract a s.size)).2 = 1) := by
    rw [Bool.eq_iff_iff]
    simp
    omega
  rw [e]
set_option maxRecDepth 1000000 in
theorem broken_any (s : ByteArray) (a : Nat) (ha : a ≤ s.size) (c : Int) (w : World) (hT : Utf8Tabs 4 5 w) : Calls Tryz.prog 85 #[.string s, .int .i64 a, .int .i32 c] w fun e w' => e = .returned (.bool (decide (c = 65533 ∧ (decodeGo (s.extract a s.size)).2 = 1))) ∧ Below w.heap.size w w' := by
  by_cases hc : c = 65533
  · subst hc
    refine (broken_yes s a ha w hT).mono fun e w' ⟨he, hb⟩ => ⟨?_, hb⟩
    rw [he]; simp
  · refine (broken_no s a c hc w).mono fun e w' ⟨he, hw⟩ => ⟨?_, hw ▸ Below.refl _ _⟩
    rw [he]; simp [hc]
def partF (c : Int) (first : Bool) : Bool := isLetterU c || !first && (isDigitU c || c == 45 || c == 95 || c == 46)
set_option maxRecDepth 1000000 in
theorem part_any (c : Int) (first : Bool) (h1 : -2147483648 ≤ c) (h2 : c ≤ 2147483647) (w : World) (hT : TabIs Tryz.prog w "unicode.properties" .u8 propertiesTab) (hL : RVar 2 letterT w) (hD : ∀ w', Below w.heap.size w w' → RVar 3 digitT w') :
    Calls Tryz.prog 90 #[.int .i32 c, .bool first] w fun e w' => e = .returned (.bool (partF c first)) ∧ Below w.heap.size w w' := by
  have cL : Calls Tryz.prog 145 #[.int .i32 c] w _ := Any.unicode_IsLetter_all Tryz.laysLetter (by kernel_rfl) c w h1 h2 hT hL
  go_enter Tryz.func90, Tryz.ntmps90
  go_wp2_with fail
  refine cL.mono fun e w1 ⟨he, hb⟩ => ?_
  subst he
  have cD : Calls Tryz.prog 146 #[.int .i32 c] w1 _ := Any.unicode_IsDigit_all Tryz.laysDigit c w1 h1 h2 (hD w1 hb)
  cases hl : isLetterU c with
  | true =>
    go_wp2_with fail
    go_ret
    exact ⟨by simp [partF, hl], hb⟩
  | false =>
    cases first with
    | true =>
      go_wp2_with fail
      go_ret
      exact ⟨by simp [partF, hl], hb⟩
    | false =>
      go_wp2_with fail
      refine cD.mono fun e w2 ⟨he, hb2⟩ => ?_
      subst he
      have hb3 : Below w.heap.size w w2 := hb.trans (hb2.mono hb.size)
      cases hd : isDigitU c with
      | true =>
        go_wp2_with fail
        go_ret
        exact ⟨by simp [partF, hl, hd], hb3⟩
      | false =>
        by_cases e1 : c = 45
        · subst e1
          go_wp2_with fail
          go_ret
          exact ⟨by simp [partF], hb3⟩
        by_cases e2 : c = 95
        · subst e2
          go_wp2_with fail
          go_ret
          exact ⟨by simp [partF], hb3⟩
        have b1 : (c == 45) = false := by simpa using e1
        have b2 : (c == 95) = false := by simpa using e2
        go_wp2_with fail
        go_ret
        exact ⟨by simp [partF, hl, hd, b1, b2], hb3⟩
end Seal
set_option linter.unusedVariables false
namespace Seal
open Go Go.Lib Go.Proofs Go.RowKit
structure Tabs (w : World) : Prop where
  u : Utf8Tabs 4 5 w
  p : TabIs Tryz.prog w "unicode.properties" .u8 propertiesTab
  l : RVar 2 letterT w
  d : RVar 3 digitT w
theorem Tabs.keep {w w' : World} (h : Tabs w) (hc : ∀ a v, w.cell? a = some v → w'.cell? a = some v) (hv : ∀ n v, w.var? Tryz.prog n = some v → w'.var? Tryz.prog n = some v) : Tabs w' := by
  have rv : ∀ {g : Nat} {T : RTab}, RVar g T w → RVar g T w' := by
    rintro g T ⟨Tb, oT, h1, a16, a32, R16, o16, c16, R32, o32, c32, h2, h3, h4, h5, h6, h7, h8, h9⟩
    refine ⟨Tb, oT, hc _ _ h1, a16, a32, R16, o16, c16, R32, o32, c32, hc _ _ h2, hc _ _ h3, hc _ _ h4, h5, h6, fun i hi => ?_, fun i hi => ?_, h9⟩
    · obtain ⟨x, y, z⟩ := h7 i hi
      exact ⟨hc _ _ x, hc _ _ y, hc _ _ z⟩
    · obtain ⟨x, y, z⟩ := h8 i hi
      exact ⟨hc _ _ x, hc _ _ y, hc _ _ z⟩
  exact ⟨⟨fun c h1 => hc _ _ (h.u.1 c h1), fun i hi => ⟨hc _ _ (h.u.2 i hi).1, hc _ _ (h.u.2 i hi).2⟩⟩, hv _ _ h.p, rv h.l, rv h.d⟩
theorem Tabs.below {w w' : World} (h : Tabs w) (hb : Below w.heap.size w w') : Tabs w' := by
  refine h.keep (fun a v ha => ?_) (fun n v hn => ?_)
  · have hlt : a.block < w.heap.size := by
      rcases Nat.lt_or_ge a.block w.heap.size with h | h
      · exact h
      · unfold World.cell? at ha
        rw [Array.getElem?_eq_none h] at ha; cases ha
    rw [hb.cell hlt]; exact ha
  · unfold World.var? at *
    cases hg : Tryz.prog.globalNamed n with
    | none => rw [hg] at hn; cases hn
    | some g =>
      rw [hg] at hn
      have hlt : g < w.heap.size := by
        rcases Nat.lt_or_ge g w.heap.size with h | h
        · exact h
        · have hn : (match w.heap[g]? with | some (.cells cs _ _) => some cs | _ => none) = some v := hn
          rw [Array.getElem?_eq_none h] at hn; cases hn
      show (match w'.heap[g]? with | some (.cells cs _ _) => some cs | _ => none) = some v
      rw [hb.block g hlt]; exact hn
def finF (n : Int) : Int := if n < 1 ∨ n > 24 then 41 else 0
def brF (s : ByteArray) (pos : Nat) (c : Int) : Bool := decide (c = 65533 ∧ (decodeGo (s.extract pos s.size)).2 = 1)
def badF (s : ByteArray) (pos : Nat) (n : Int) : Bool := brF s pos (Utf8.decode s pos).1 || !partF (Utf8.decode s pos).1 (n == 0)
def nmF (s : ByteArray) : Nat → Nat → Int → Int
  | 0, pos, n => finF n
  | b + 1, pos, n => if pos < s.size then (if badF s pos n then 41 else nmF s b (pos + (Utf8.decode s pos).2) (n + 1)) else finF n
theorem nm_end (s : ByteArray) (b pos : Nat) (n : Int) (h : ¬ pos < s.size) : nmF s b pos n = finF n := by
  cases b with
  | zero => rfl
  | succ b => simp [nmF, h]
theorem width_pos (s : ByteArray) (pos : Nat) (h : pos < s.size) : 1 ≤ (Utf8.decode s pos).2 := by
  by_cases ha : (s[pos]'h).toNat < 128
  · rw [decode_ascii s pos h ha]
    exact Nat.le_refl _
  · exact (decode_high s pos h (by omega)).2
theorem iterAt_below {w wr : World} {s : ByteArray} {p : Nat} (h : Below w.heap.size w wr) : Below w.heap.size w (wr.iterAt w.heap.size s p) := by
  refine h.trans ⟨rfl, rfl, rfl, ?_, fun k hk => ?_⟩
  · simp [World.iterAt]
  · simp [World.iterAt, Nat.ne_of_gt hk]
theorem iterAt_at {k : Nat} {wr : World} {s : ByteArray} {p q : Nat} (h : wr.heap[k]? = some (.stringIter s q)) : (wr.iterAt k s p).heap[k]? = some (.stringIter s p) := by
  have := (Array.getElem?_eq_some_iff.1 h).1
  simp [World.iterAt, this]
set_option maxRecDepth 1000000 in
set_option maxHeartbeats 4000000 in
theorem name_any (s : ByteArray) (hs : s.size < 4611686018427387904) (w : World) (hT : Tabs w) : Calls Tryz.prog 46 #[.string s] w fun e w' => e = .returned (.int .i64 (nmF s s.size 0 0)) ∧ Below w.heap.size w w' := by
  go_enter Tryz.func46, Tryz.ntmps46
  go_wp2_with fail
  go_loopw [3] (fun n w' => ∃ (pos b : Nat) (k : Int), w'.heap[w.heap.size]? = some (.stringIter s pos) ∧ Below w.heap.size w w' ∧ n = .int .i64 k ∧ nmF s b pos k = nmF s s.size 0 0 ∧ s.size ≤ pos + b ∧ 0 ≤ k ∧ k ≤ pos) (fun _ w' => s.size - w'.iterPos w.heap.size)
  case atStart => exact ⟨0, s.size, 0, World.iter_heap w s 0, Below.alloc (Below.refl _ _) (Nat.le_refl _) _, rfl, rfl, by omega, by omega, by omega⟩
  case round =>
    obtain ⟨pos, b, k, hat, hbl, rfl, hc, hb, hk0, hk1⟩ := hrel
    by_cases hp : pos < s.size
    · have hnx : ∀ ty, (Instr.next (.pointer (some ⟨w.heap.size, 0, none⟩)) true ty).run Tryz.prog wr = _ := fun ty => run_next_any_at wr w.heap.size s pos ty hat hp
      have hwd := width_pos s pos hp
      have hbl2 : Below w.heap.size w (wr.iterAt w.heap.size s (pos + (Utf8.decode s pos).2)) := iterAt_below hbl
      have hat2 : (wr.iterAt w.heap.size s (pos + (Utf8.decode s pos).2)).heap[w.heap.size]? = some (.stringIter s (pos + (Utf8.decode s pos).2)) := iterAt_at hat
      have hle := decode_le s pos
      generalize wr.iterAt w.heap.size s (pos + (Utf8.decode s pos).2) = w1 at *
      have cB : Calls Tryz.prog 85 #[.string s, .int .i64 pos, .int .i32 (Utf8.decode s pos).1] w1 fun e w' => e = .returned (.bool (brF s pos (Utf8.decode s pos).1)) ∧ Below w1.heap.size w1 w' := broken_any s pos (Nat.le_of_lt hp) (Utf8.decode s pos).1 w1 (hT.below hbl2).u
      have hlt : w.heap.size < w1.heap.size := (Array.getElem?_eq_some_iff.1 hat2).1
      obtain ⟨br, hbr⟩ : ∃ br, brF s pos (Utf8.decode s pos).1 = br := ⟨_, rfl⟩
      rw [hbr] at cB
      go_wp2_with fail
      refine cB.mono fun e w2 ⟨he, hb2⟩ => ?_
      subst he
      have hbl3 : Below w.heap.size w w2 := hbl2.trans (hb2.mono hbl2.size)
      have hat3 : w2.heap[w.heap.size]? = some (.stringIter s (pos + (Utf8.decode s pos).2)) := by rw [hb2.block _ hlt]; exact hat2
      clear hat2 hbl2 hb2 hbl
      cases br with
      | true =>
        go_wp2_with fail
        go_ret
        refine ⟨?_, hbl3⟩
        rw [← hc]
        cases b with
        | zero => omega
        | succ b => simp [nmF, hp, badF, hbr]
      | false =>
        have hT3 := hT.below hbl3
        have cP := part_any (Utf8.decode s pos).1 (k == 0) (by omega) (by omega) w2 hT3.p hT3.l (fun w' h' => (hT3.below h').d)
        obtain ⟨pr, hpr⟩ : ∃ pr, partF (Utf8.decode s pos).1 (k == 0) = pr := ⟨_, rfl⟩
        rw [hpr] at cP
        go_wp2_with fail
        refine cP.mono fun e w3 ⟨he, hb3⟩ => ?_
        subst he
        have hlt2 : w.heap.size < w2.heap.size := (Array.getElem?_eq_some_iff.1 hat3).1
        have hbl4 : Below w.heap.size w w3 := hbl3.trans (hb3.mono hbl3.size)
        have hat4 : w3.heap[w.heap.size]? = some (.stringIter s (pos + (Utf8.decode s pos).2)) := by rw [hb3.block _ hlt2]; exact hat3
        clear hat3 hbl3 hb3
        cases pr with
        | false =>
          go_wp2_with fail
          go_ret
          refine ⟨?_, hbl4⟩
          rw [← hc]
          cases b with
          | zero => omega
          | succ b => simp [nmF, hp, badF, hpr]
        | true =>
          have hk2 : k + 1 < 9223372036854775808 := by omega
          go_wp2_with fail
          go_roundw
          case rel =>
            cases b with
            | zero => omega
            | succ b =>
              refine ⟨pos + (Utf8.decode s pos).2, b, k + 1, hat4, hbl4, ?_, ?_, by omega, by omega, by omega⟩
              · rfl
              · rw [← hc]; simp [nmF, hp, badF, hbr, hpr]
          case measure =>
            simp only [World.iterPos, hat, hat4]
            omega
    · have hnx : ∀ ty, (Instr.next (.pointer (some ⟨w.heap.size, 0, none⟩)) true ty).run Tryz.prog wr = _ := fun ty => run_next_end_at wr w.heap.size s pos ty hat hp
      rw [nm_end s b pos k hp] at hc
      by_cases h1 : k < 1
      · go_wp2_with fail
        go_ret
        exact ⟨by rw [← hc]; simp [finF, h1], hbl⟩
      by_cases h2 : k > 24
      · go_wp2_with fail
        go_ret
        exact ⟨by rw [← hc]; simp [finF, h2], hbl⟩
      go_wp2_with fail
      go_ret
      exact ⟨by rw [← hc]; simp [finF, h1, h2], hbl⟩
end Seal
set_option linter.unusedVariables false
namespace Seal
open Go Go.Ab Go.Lib Go.Proofs
variable {W : World}
theorem tabs_base {B : Nat} {σ : Ab.Loc} {h : Nat → Option Ab.Obj} {H : Ab.Heap} {w : World} (k : @Known (baseOf W) Tryz.prog B σ h H w) (hT : Tabs W) : Tabs w := hT.keep (fun a v ha => cell_base k ha) (fun n v hn => var_base k hn)
theorem name_good (hT : Tabs W) {s : ByteArray} (hs : s.size < 4611686018427387904) (H : Ab.Heap) : @OrcGood (baseOf W) Tryz.prog 46 [.string s] H (.int .i64 (nmF s s.size 0 0)) :=
  good_of_calls rfl rfl ⟨_, _, Tryz.func46, rfl⟩ fun B σ h w k => name_any s hs w (tabs_base k hT)
end Seal
set_option linter.unusedVariables false
set_option maxRecDepth 100000
namespace Seal
open Go Go.Lib Go.Shelf Go.Proofs Go.Proofs.YtdiimfnakedaoaaGreatDoor
variable {W : World}
theorem xL : RExtra Tryz.prog Tryz.laysLetter_ren := ⟨by kernel_rfl, by kernel_rfl, by kernel_rfl, by kernel_rfl, by kernel_rfl, by kernel_rfl, by kernel_rfl, by kernel_rfl⟩
theorem xD : RExtra Tryz.prog Tryz.laysDigit_ren := ⟨by kernel_rfl, by kernel_rfl, by kernel_rfl, by kernel_rfl, by kernel_rfl, by kernel_rfl, by kernel_rfl, by kernel_rfl⟩
theorem xU : U8Extra Tryz.prog Tryz.laysDecode_ren := by constructor <;> kernel_rfl
theorem accept_eq : (Rows.laid_unicode_utf8_acceptRanges : DataW Unit) = acceptData := by kernel_rfl
theorem prop_eq : (Rows.laid_unicode_properties : DataW Unit) = tabData .u8 propertiesTab := by kernel_rfl
theorem tab_of_reads {P : Program} {name : String} {k : IntKind} {zs : List Int} {g : Nat} {t e : TypeId} {n : Nat}
    (hg : P.globalNamed name = some g) (hty : (P.globals[g]?).map (·.type) = some t) (ht : P.underlying t = some (.array n e)) (he : P.underlying e = some (.int k)) (hce : P.cellsOf e = 1) (hct : P.cellsOf t = n)
    (h : VarReads P W name (tabData k zs)) : TabIs P W name k zs := by
  obtain ⟨g', t', cs, fuel, p, hg', ht', hvar, hd⟩ := h
  obtain rfl := Option.some.inj (hg.symm.trans hg')
  obtain rfl := Option.some.inj (hty.symm.trans ht')
  unfold TabIs
  rw [hvar, ← cells_of_tab ht he hce hct hd]
theorem tabs_of_reads (h1 : VarReads Tryz.prog W "unicode/utf8.acceptRanges" Rows.laid_unicode_utf8_acceptRanges) (h2 : VarReads Tryz.prog W "unicode.properties" Rows.laid_unicode_properties)
    (h3 : VarReads Tryz.prog W "unicode.Digit" Rows.laid_unicode_Digit) (h4 : VarReads Tryz.prog W "unicode.Letter" Rows.laid_unicode_Letter) (h5 : VarReads Tryz.prog W "unicode/utf8.first" Rows.laid_unicode_utf8_first) : Tabs W := by
  refine ⟨?_, ?_, ?_, ?_⟩
  · rw [accept_eq] at h1
    have h5 : VarReads Tryz.prog W "unicode/utf8.first" Pinned.utf8First := h5
    rw [Pinned.utf8First_eq] at h5
    exact utf8Tabs_of_readsT (ρ := Tryz.laysDecode_ren) { Tryz.laysDecode with } xU h5 h1
  · rw [prop_eq] at h2
    exact tab_of_reads (g := 1) (t := 340) (e := 5) (n := 256) (by kernel_rfl) (by kernel_rfl) (by kernel_rfl) (by kernel_rfl) (by kernel_rfl) (by kernel_rfl) h2
  · have h4 : VarReads Tryz.prog W "unicode.Letter" Pinned.letter := h4
    rw [Pinned.letter_eq] at h4
    exact rvar_of_reads (ρ := Tryz.laysLetter_ren) { Tryz.laysLetter with } xL (by kernel_rfl) (by kernel_rfl) h4
  · have h3 : VarReads Tryz.prog W "unicode.Digit" Pinned.digit := h3
    rw [Pinned.digit_eq] at h3
    exact rvar_of_reads (ρ := Tryz.laysDigit_ren) { Tryz.laysDigit with } xD (by kernel_rfl) (by kernel_rfl) h3
end Seal
set_option linter.unusedVariables false
set_option maxRecDepth 100000
namespace Seal
open Go Go.Lib Go.Shelf Go.Proofs
variable {W : World}
def nameT (args : List Value) : Option Value := match args with
  | [.string s] => cond (Nat.blt s.size 4611686018427387904) (some (.int .i64 (nmF s s.size 0 0))) none
  | _ => none
def runeT (F : Int → Bool) (args : List Value) : Option Value := match args with
  | [.int .i32 r] => cond (decide (-2147483648 ≤ r) && decide (r ≤ 2147483647)) (some (.bool (F r))) none
  | _ => none
@[reducible] def orcS : Ab.Orc := ⟨fun f args _ => cond (Nat.beq f 46) (nameT args) (cond (Nat.beq f 145) (runeT isLetterU args) (cond (Nat.beq f 146) (runeT isDigitU args) none)), fun _ => none⟩
theorem nameT_some {args : List Value} {v : Value} (h : nameT args = some v) : ∃ s, args = [.string s] ∧ s.size < 4611686018427387904 ∧ v = .int .i64 (nmF s s.size 0 0) := by
  unfold nameT at h
  split at h
  · rename_i s
    cases hb : Nat.blt s.size 4611686018427387904 with
    | false => rw [hb] at h; cases h
    | true =>
      rw [hb] at h
      cases h
      exact ⟨s, rfl, by rw [Ab.blt_eq] at hb; exact of_decide_eq_true hb, rfl⟩
  · cases h
theorem runeT_some {F : Int → Bool} {args : List Value} {v : Value} (h : runeT F args = some v) : ∃ r, args = [.int .i32 r] ∧ -2147483648 ≤ r ∧ r ≤ 2147483647 ∧ v = .bool (F r) := by
  unfold runeT at h
  split at h
  · rename_i r
    cases hb : decide (-2147483648 ≤ r) && decide (r ≤ 2147483647) with
    | false => rw [hb] at h; cases h
    | true =>
      rw [hb] at h
      cases h
      rw [Bool.and_eq_true] at hb
      exact ⟨r, rfl, of_decide_eq_true hb.1, of_decide_eq_true hb.2, rfl⟩
  · cases h
theorem tabS_ok (hT : Tabs W) (f : FuncId) (args : List Value) (H : Ab.Heap) (v : Value) (h : orcS.tab f args H = some v) : @Ab.OrcGood (Ab.baseOf W) Tryz.prog f args H v := by
  have h : cond (Nat.beq f 46) (nameT args) (cond (Nat.beq f 145) (runeT isLetterU args) (cond (Nat.beq f 146) (runeT isDigitU args) none)) = some v := h
  cases h1 : Nat.beq f 46 with
  | true =>
    rw [h1] at h
    obtain rfl := Nat.eq_of_beq_eq_true h1
    obtain ⟨s, rfl, hs, rfl⟩ := nameT_some h
    exact name_good hT hs H
  | false =>
  rw [h1] at h
  cases h2 : Nat.beq f 145 with
  | true =>
    rw [h2] at h
    obtain rfl := Nat.eq_of_beq_eq_true h2
    obtain ⟨r, rfl, a, b, rfl⟩ := runeT_some h
    exact letter_good hT.p hT.l a b H
  | false =>
  rw [h2] at h
  cases h3 : Nat.beq f 146 with
  | true =>
    rw [h3] at h
    obtain rfl := Nat.eq_of_beq_eq_true h3
    obtain ⟨r, rfl, a, b, rfl⟩ := runeT_some h
    exact digit_good hT.d a b H
  | false => rw [h3] at h; cases h
theorem good : Ab.goodB Tryz.prog = true := by kernel_rfl
end Seal
namespace Go.Proofs
open Go.RowKit Go.Shelf Go.Lib
set_option maxRecDepth 100000
def Tryz.laysLower_ren : Ren :=
{ f := fun x =>
    match x with
    | 204 => 88
    | 262 => 144
    | 274 => 260
    | 275 => 261
    | 313 => 209
    | n => n,
  t := fun x =>
    match x with
    | 46 => 143
    | 51 => 336
    | 160 => 386
    | 162 => 339
    | 203 => 337
    | 206 => 419
    | 208 => 421
    | n => n,
  g := fun x =>
    match x with
    | 13 => 0
    | n => n }
theorem Tryz.laysLower : Lays.n204 Tryz.prog Tryz.laysLower_ren :=
{ mixed := Eq.refl true,
  f204 := Eq.trans Tryz.func88 (congrArg some (Eq.refl (Body.n204 Tryz.laysLower_ren))),
  f262 := Eq.trans Tryz.func144 (congrArg some (Eq.refl (Body.n262 Tryz.laysLower_ren))),
  f274 := Eq.trans Tryz.func260 (congrArg some (Eq.refl (Body.n274 Tryz.laysLower_ren))),
  f275 := Eq.trans Tryz.func261 (congrArg some (Eq.refl (Body.n275 Tryz.laysLower_ren))),
  f313 := Eq.trans Tryz.func209 (congrArg some (Eq.refl (Body.n313 Tryz.laysLower_ren))),
  t0 := Tryz.underlying0,
  a0 := Tryz.isAgg0,
  z0 := Tryz.sizeOf0,
  v0 := Tryz.zeroValue0,
  t3 := Tryz.underlying3,
  a3 := Tryz.isAgg3,
  z3 := Tryz.sizeOf3,
  v3 := Tryz.zeroValue3,
  t4 := Tryz.underlying4,
  a4 := Tryz.isAgg4,
  z4 := Tryz.sizeOf4,
  v4 := Tryz.zeroValue4,
  t21 := Tryz.underlying21,
  a21 := Tryz.isAgg21,
  z21 := Tryz.sizeOf21,
  v21 := Tryz.zeroValue21,
  t46 := Tryz.underlying143,
  a46 := Tryz.isAgg143,
  z46 := Tryz.sizeOf143,
  v46 := Tryz.zeroValue143,
  t51 := Tryz.underlying336,
  a51 := Tryz.isAgg336,
  z51 := Tryz.sizeOf336,
  v51 := Tryz.zeroValue336,
  t160 := Tryz.underlying386,
  a160 := Tryz.isAgg386,
  z160 := Tryz.sizeOf386,
  v160 := Tryz.zeroValue386,
  t162 := Tryz.underlying339,
  a162 := Tryz.isAgg339,
  z162 := Tryz.sizeOf339,
  v162 := Tryz.zeroValue339,
  t203 := Tryz.underlying337,
  a203 := Tryz.isAgg337,
  z203 := Tryz.sizeOf337,
  v203 := Tryz.zeroValue337,
  t206 := Tryz.underlying419,
  a206 := Tryz.isAgg419,
  z206 := Tryz.sizeOf419,
  v206 := Tryz.zeroValue419,
  t208 := Tryz.underlying421,
  a208 := Tryz.isAgg421,
  z208 := Tryz.sizeOf421,
  v208 := Tryz.zeroValue421,
  g13 := by kernel_rfl }
def Tryz.laysWB_ren : Ren :=
{ f := fun x =>
    match x with
    | 167 => 86
    | 168 => 87
    | 240 => 142
    | 242 => 143
    | 276 => 207
    | 278 => 208
    | n => n,
  t := fun x =>
    match x with
    | 37 => 28
    | 46 => 143
    | 51 => 336
    | 70 => 195
    | 72 => 197
    | 75 => 200
    | 80 => 205
    | 164 => 334
    | n => n,
  g := fun x =>
    match x with
    | n => n }
theorem Tryz.laysWB : Lays.n167 Tryz.prog Tryz.laysWB_ren :=
{ mixed := Eq.refl true,
  f167 := Eq.trans Tryz.func86 (congrArg some (Eq.refl (Body.n167 Tryz.laysWB_ren))),
  f240 := Eq.trans Tryz.func142 (congrArg some (Eq.refl (Body.n240 Tryz.laysWB_ren))),
  f276 := Eq.trans Tryz.func207 (congrArg some (Eq.refl (Body.n276 Tryz.laysWB_ren))),
  t0 := Tryz.underlying0,
  a0 := Tryz.isAgg0,
  z0 := Tryz.sizeOf0,
  v0 := Tryz.zeroValue0,
  t4 := Tryz.underlying4,
  a4 := Tryz.isAgg4,
  z4 := Tryz.sizeOf4,
  v4 := Tryz.zeroValue4,
  t5 := Tryz.underlying5,
  a5 := Tryz.isAgg5,
  z5 := Tryz.sizeOf5,
  v5 := Tryz.zeroValue5,
  t9 := Tryz.underlying9,
  a9 := Tryz.isAgg9,
  z9 := Tryz.sizeOf9,
  v9 := Tryz.zeroValue9,
  t20 := Tryz.underlying20,
  a20 := Tryz.isAgg20,
  z20 := Tryz.sizeOf20,
  v20 := Tryz.zeroValue20,
  t37 := Tryz.underlying28,
  a37 := Tryz.isAgg28,
  z37 := Tryz.sizeOf28,
  v37 := Tryz.zeroValue28,
  t70 := Tryz.underlying195,
  a70 := Tryz.isAgg195,
  z70 := Tryz.sizeOf195,
  v70 := Tryz.zeroValue195,
  t72 := Tryz.underlying197,
  a72 := Tryz.isAgg197,
  z72 := Tryz.sizeOf197,
  v72 := Tryz.zeroValue197,
  t75 := Tryz.underlying200,
  a75 := Tryz.isAgg200,
  z75 := Tryz.sizeOf200,
  v75 := Tryz.zeroValue200,
  t164 := Tryz.underlying334,
  a164 := Tryz.isAgg334,
  z164 := Tryz.sizeOf334,
  v164 := Tryz.zeroValue334 }
def Tryz.laysWR_ren : Ren :=
{ f := fun x =>
    match x with
    | 167 => 86
    | 168 => 87
    | 240 => 142
    | 242 => 143
    | 276 => 207
    | 278 => 208
    | n => n,
  t := fun x =>
    match x with
    | 37 => 28
    | 46 => 143
    | 51 => 336
    | 70 => 195
    | 72 => 197
    | 75 => 200
    | 80 => 205
    | 164 => 334
    | n => n,
  g := fun x =>
    match x with
    | n => n }
theorem Tryz.laysWR : Lays.n168 Tryz.prog Tryz.laysWR_ren :=
{ mixed := Eq.refl true,
  f168 := Eq.trans Tryz.func87 (congrArg some (Eq.refl (Body.n168 Tryz.laysWR_ren))),
  f240 := Eq.trans Tryz.func142 (congrArg some (Eq.refl (Body.n240 Tryz.laysWR_ren))),
  f242 := Eq.trans Tryz.func143 (congrArg some (Eq.refl (Body.n242 Tryz.laysWR_ren))),
  f276 := Eq.trans Tryz.func207 (congrArg some (Eq.refl (Body.n276 Tryz.laysWR_ren))),
  f278 := Eq.trans Tryz.func208 (congrArg some (Eq.refl (Body.n278 Tryz.laysWR_ren))),
  t0 := Tryz.underlying0,
  a0 := Tryz.isAgg0,
  z0 := Tryz.sizeOf0,
  v0 := Tryz.zeroValue0,
  t3 := Tryz.underlying3,
  a3 := Tryz.isAgg3,
  z3 := Tryz.sizeOf3,
  v3 := Tryz.zeroValue3,
  t4 := Tryz.underlying4,
  a4 := Tryz.isAgg4,
  z4 := Tryz.sizeOf4,
  v4 := Tryz.zeroValue4,
  t5 := Tryz.underlying5,
  a5 := Tryz.isAgg5,
  z5 := Tryz.sizeOf5,
  v5 := Tryz.zeroValue5,
  t9 := Tryz.underlying9,
  a9 := Tryz.isAgg9,
  z9 := Tryz.sizeOf9,
  v9 := Tryz.zeroValue9,
  t20 := Tryz.underlying20,
  a20 := Tryz.isAgg20,
  z20 := Tryz.sizeOf20,
  v20 := Tryz.zeroValue20,
  t21 := Tryz.underlying21,
  a21 := Tryz.isAgg21,
  z21 := Tryz.sizeOf21,
  v21 := Tryz.zeroValue21,
  t37 := Tryz.underlying28,
  a37 := Tryz.isAgg28,
  z37 := Tryz.sizeOf28,
  v37 := Tryz.zeroValue28,
  t46 := Tryz.underlying143,
  a46 := Tryz.isAgg143,
  z46 := Tryz.sizeOf143,
  v46 := Tryz.zeroValue143,
  t51 := Tryz.underlying336,
  a51 := Tryz.isAgg336,
  z51 := Tryz.sizeOf336,
  v51 := Tryz.zeroValue336,
  t70 := Tryz.underlying195,
  a70 := Tryz.isAgg195,
  z70 := Tryz.sizeOf195,
  v70 := Tryz.zeroValue195,
  t72 := Tryz.underlying197,
  a72 := Tryz.isAgg197,
  z72 := Tryz.sizeOf197,
  v72 := Tryz.zeroValue197,
  t75 := Tryz.underlying200,
  a75 := Tryz.isAgg200,
  z75 := Tryz.sizeOf200,
  v75 := Tryz.zeroValue200,
  t164 := Tryz.underlying334,
  a164 := Tryz.isAgg334,
  z164 := Tryz.sizeOf334,
  v164 := Tryz.zeroValue334 }
def Tryz.laysStr_ren : Ren :=
{ f := fun x =>
    match x with
    | 169 => 89
    | n => n,
  t := fun x =>
    match x with
    | 37 => 28
    | 70 => 195
    | 72 => 197
    | 127 => 270
    | n => n,
  g := fun x =>
    match x with
    | n => n }
theorem Tryz.laysStr : Lays.n169 Tryz.prog Tryz.laysStr_ren :=
{ mixed := Eq.refl true,
  f169 := Eq.trans Tryz.func89 (congrArg some (Eq.refl (Body.n169 Tryz.laysStr_ren))),
  t0 := Tryz.underlying0,
  a0 := Tryz.isAgg0,
  z0 := Tryz.sizeOf0,
  v0 := Tryz.zeroValue0,
  t3 := Tryz.underlying3,
  a3 := Tryz.isAgg3,
  z3 := Tryz.sizeOf3,
  v3 := Tryz.zeroValue3,
  t9 := Tryz.underlying9,
  a9 := Tryz.isAgg9,
  z9 := Tryz.sizeOf9,
  v9 := Tryz.zeroValue9,
  t37 := Tryz.underlying28,
  a37 := Tryz.isAgg28,
  z37 := Tryz.sizeOf28,
  v37 := Tryz.zeroValue28,
  t70 := Tryz.underlying195,
  a70 := Tryz.isAgg195,
  z70 := Tryz.sizeOf195,
  v70 := Tryz.zeroValue195,
  t72 := Tryz.underlying197,
  a72 := Tryz.isAgg197,
  z72 := Tryz.sizeOf197,
  v72 := Tryz.zeroValue197,
  t127 := Tryz.underlying270,
  a127 := Tryz.isAgg270,
  z127 := Tryz.sizeOf270,
  v127 := Tryz.zeroValue270 }
theorem Tryz.extraWB : Builder.Extra Tryz.prog Tryz.laysWB_ren where
  sizeBuilder := by kernel_rfl
  liesBuilder := by kernel_rfl
  t5 := Tryz.underlying5
  a5 := Tryz.isAgg5
  z5 := Tryz.sizeOf5
  v5 := Tryz.zeroValue5
  infoByte := by kernel_rfl
  cellsByte := by kernel_rfl
  sizeByte := by kernel_rfl
  neB5 := by decide
theorem Tryz.extraWR : Builder.Extra Tryz.prog Tryz.laysWR_ren where
  sizeBuilder := by kernel_rfl
  liesBuilder := by kernel_rfl
  t5 := Tryz.underlying5
  a5 := Tryz.isAgg5
  z5 := Tryz.sizeOf5
  v5 := Tryz.zeroValue5
  infoByte := by kernel_rfl
  cellsByte := by kernel_rfl
  sizeByte := by kernel_rfl
  neB5 := by decide
theorem Tryz.extraStr : Builder.Extra Tryz.prog Tryz.laysStr_ren where
  sizeBuilder := by kernel_rfl
  liesBuilder := by kernel_rfl
  t5 := Tryz.underlying5
  a5 := Tryz.isAgg5
  z5 := Tryz.sizeOf5
  v5 := Tryz.zeroValue5
  infoByte := by kernel_rfl
  cellsByte := by kernel_rfl
  sizeByte := by kernel_rfl
  neB5 := by decide
theorem Tryz.WriteByte_k (B b : Nat) (bs : List Value) (c : Int) (w : World) (h : Lib.IsBuilderF 197 5 B b bs w) (hlen : bs.length + 1 ≤ 140737488355328) (hBw : B ≤ w.heap.size) :
    Calls Tryz.prog 86 #[.pointer (some ⟨b, 0, none⟩), .int .u8 c] w fun e w' => e = .returned .nilIface ∧ (Lib.BuilderAtF 197 5 B b (.pointer (some ⟨b, 0, none⟩)) (bs ++ [.int .u8 c]) w' ∧ Below B w w' ∧ Lib.OthersKept 5 (some b) w w') := Any.Builder_WriteByte_k Tryz.laysWB Tryz.extraWB B b bs c w h hlen hBw
theorem Tryz.WriteRune_k (B b : Nat) (bs : List Value) (r : Int) (hr0 : -2147483648 ≤ r) (hr1 : r ≤ 2147483647) (w : World) (h : Lib.IsBuilderF 197 5 B b bs w) (hlen : bs.length + 4 ≤ 140737488355328) (hBw : B ≤ w.heap.size) :
    Calls Tryz.prog 87 #[.pointer (some ⟨b, 0, none⟩), .int .i32 r] w fun e w' => e = .returned (.tuple #[.int .i64 (Lib.runeCells r).length, .nilIface]) ∧ (Lib.BuilderAtF 197 5 B b (.pointer (some ⟨b, 0, none⟩)) (bs ++ Lib.runeCells r) w' ∧ Below B w w' ∧ Lib.OthersKept 5 (some b) w w') := Any.Builder_WriteRune_k Tryz.laysWR Tryz.extraWR B b bs r hr0 hr1 w h hlen hBw
theorem Tryz.String_k (B b : Nat) (l : List UInt8) (w : World) (h : Lib.IsBuilderF 197 5 B b (Lib.byteCells l) w) (hBw : B ≤ w.heap.size) :
    Calls Tryz.prog 89 #[.pointer (some ⟨b, 0, none⟩)] w fun e w' => e = .returned (.string ⟨l.toArray⟩) ∧ (Lib.IsBuilderF 197 5 B b (Lib.byteCells l) w' ∧ Below B w w' ∧ Lib.OthersKept 5 (some b) w w') := Any.Builder_String_any_k Tryz.laysStr Tryz.extraStr B b l w h hBw
theorem Tryz.ToLower_k (r : Int) (w : World) (hV : CaseVar 0 caseA w) :
    Calls Tryz.prog 88 #[.int .i32 r] w fun e w' => e = .returned (.int .i32 (toLowerU r)) ∧ ∃ q, w' = w.drewN q := Any.unicode_ToLower_laid Tryz.laysLower r w hV
end Go.Proofs
set_option linter.unusedVariables false
namespace Seal
open Go Go.Lib Go.Proofs Go.RowKit
structure Tabs2 (w : World) : Prop where
  t : Tabs w
  c : CaseVar 0 caseA w
theorem Tabs2.below {w w' : World} (h : Tabs2 w) (hb : Below w.heap.size w w') : Tabs2 w' := by
  refine ⟨h.t.below hb, ?_⟩
  have kc : ∀ a v, w.cell? a = some v → w'.cell? a = some v := fun a v ha => by
    have hlt : a.block < w.heap.size := by
      rcases Nat.lt_or_ge a.block w.heap.size with h | h
      · exact h
      · unfold World.cell? at ha
        rw [Array.getElem?_eq_none h] at ha; cases ha
    rw [hb.cell hlt]; exact ha
  obtain ⟨R, oR, cap, h1, h2⟩ := h.c
  refine ⟨R, oR, cap, kc _ _ h1, fun i hi => ?_⟩
  obtain ⟨a1, a2, a3, a4, a5⟩ := h2 i hi
  exact ⟨kc _ _ a1, kc _ _ a2, kc _ _ a3, kc _ _ a4, kc _ _ a5⟩
theorem toLowerU_lo (r : Int) (h0 : 0 ≤ r) (h1 : r ≤ 2147483647) : -2147483648 ≤ toLowerU r ∧ toLowerU r ≤ 2147483647 := by
  rw [← toLowerW_caseA]
  unfold Go.Proofs.Lib.toLowerW
  split
  · split <;> omega
  · unfold toW
    split
    · unfold wrap32; omega
    · omega
def foldR (s : ByteArray) (pos : Nat) : List UInt8 := if brF s pos (Utf8.decode s pos).1 then [s.get! pos] else encodeRune (toLowerU (Utf8.decode s pos).1)
def foldG (s : ByteArray) : Nat → Nat → List UInt8
  | 0, _ => []
  | f + 1, pos => if pos < s.size then foldR s pos ++ foldG s f (pos + (Utf8.decode s pos).2) else []
theorem foldG_end (s : ByteArray) (f pos : Nat) (h : ¬ pos < s.size) : foldG s f pos = [] := by
  cases f with
  | zero => rfl
  | succ f => simp [foldG, h]
def foldF (s : ByteArray) : ByteArray := ⟨(foldG s s.size 0).toArray⟩
theorem drewN_below (w : World) (q : Nat) : Below w.heap.size w (w.drewN q) := ⟨rfl, rfl, rfl, Nat.le_refl _, fun _ _ => rfl⟩
theorem lower_any (r : Int) (w : World) (hV : CaseVar 0 caseA w) : Calls Tryz.prog 88 #[.int .i32 r] w fun e w' => e = .returned (.int .i32 (toLowerU r)) ∧ Below w.heap.size w w' :=
  (Tryz.ToLower_k r w hV).mono fun e w' ⟨he, q, hw⟩ => ⟨he, hw ▸ drewN_below w q⟩
set_option maxHeartbeats 4000000 in
set_option maxRecDepth 1000000 in
theorem fold_any (s : ByteArray) (w : World) (hT : Tabs2 w) (hs : s.size ≤ 35184372088832) :
    Calls Tryz.prog 45 #[.string s] w fun e w' => e = .returned (.string (foldF s)) ∧ Below w.heap.size w w' := by
  go_enter Tryz.func45, Tryz.ntmps45
  go_wp2
  go_loopw [] (fun wr => ∃ (pos fuel : Nat) (acc : List UInt8), Lib.IsBuilderF 197 5 w.heap.size w.heap.size (Lib.byteCells acc) wr ∧ wr.heap[w.heap.size + 1]? = some (.stringIter s pos) ∧ Below w.heap.size w wr ∧ acc ++ foldG s fuel pos = foldG s s.size 0 ∧ s.size ≤ pos + fuel ∧ acc.length ≤ 4 * pos) (fun wr => s.size - wr.iterPos (w.heap.size + 1))
  case atStart =>
    refine ⟨0, s.size, [], (Lib.IsBuilderF.of (Lib.fresh_isBuilder 197 5 w)).alloc _, ?_, ((Below.refl _ w).alloc (Nat.le_refl _) _).alloc (by simp) _, rfl, by omega, by simp⟩
    have := World.iter_heap (w.alloc (.cells #[.pointer none, .slice none 0 0] 197)) s 0
    simpa using this
  case round =>
    obtain ⟨pos, fuel, acc, hI, hit, hbw, hacc, hfu, hal⟩ := hrel
    have hsz : w.heap.size + 1 < wr.heap.size := (Array.getElem?_eq_some_iff.1 hit).1
    by_cases hp : pos < s.size
    · have hnx : ∀ ty, (Instr.next (.pointer (some ⟨w.heap.size + 1, 0, none⟩)) true ty).run Tryz.prog wr = _ := fun ty => Lib.run_next_any_at wr (w.heap.size + 1) s pos ty hit hp
      have hwd := width_pos s pos hp
      have hd1 := decode_le s pos
      have hI2 := hI.iterAt hit (pos + (Utf8.decode s pos).2)
      have hit2 := Lib.iterAt_heap wr (w.heap.size + 1) s pos (pos + (Utf8.decode s pos).2) hit
      have hbw2 := Lib.below_iterAt hbw (k := w.heap.size + 1) (by omega) s (pos + (Utf8.decode s pos).2)
      have hsz2 : w.heap.size ≤ (wr.iterAt (w.heap.size + 1) s (pos + (Utf8.decode s pos).2)).heap.size := by rw [Lib.iterAt_size]; omega
      obtain ⟨f, rfl⟩ : ∃ f, fuel = f + 1 := ⟨fuel - 1, by omega⟩
      generalize wr.iterAt (w.heap.size + 1) s (pos + (Utf8.decode s pos).2) = w1 at *
      have hT1 : Tabs2 w1 := hT.below hbw2
      have hlt : w.heap.size + 1 < w1.heap.size := (Array.getElem?_eq_some_iff.1 hit2).1
      have cB : Calls Tryz.prog 85 #[.string s, .int .i64 pos, .int .i32 (Utf8.decode s pos).1] w1 fun e w' => e = .returned (.bool (brF s pos (Utf8.decode s pos).1)) ∧ Below w1.heap.size w1 w' := broken_any s pos (Nat.le_of_lt hp) (Utf8.decode s pos).1 w1 hT1.t.u
      obtain ⟨br, hbr⟩ : ∃ br, brF s pos (Utf8.decode s pos).1 = br := ⟨_, rfl⟩
      rw [hbr] at cB
      go_wp2_with fail
      refine cB.mono fun e w2 ⟨he, hb2⟩ => ?_
      subst he
      have hbw3 : Below w.heap.size w w2 := hbw2.trans (hb2.mono hbw2.size)
      have hit3 : w2.heap[w.heap.size + 1]? = some (.stringIter s (pos + (Utf8.decode s pos).2)) := by rw [hb2.block _ hlt]; exact hit2
      have hI3 := hI2.below hb2
      have hT2 : Tabs2 w2 := hT.below hbw3
      have hsz3 : w.heap.size ≤ w2.heap.size := hbw3.size
      clear hit2 hbw2 hb2 hI2 cB hT1
      cases br with
      | true =>
        go_wp2_with (go_at_call 86; refine (Tryz.WriteByte_k w.heap.size w.heap.size _ _ _ hI3 (by rw [Lib.byteCells_length]; omega) hsz3).mono ?_)
        rintro e W1 ⟨rfl, h1, b1, k1⟩
        go_wp2
        go_roundw
        case rel =>
          refine ⟨pos + (Utf8.decode s pos).2, f, acc ++ [s.get! pos], ?_, k1.iter hit3 (by omega), hbw3.trans b1, ?_, by omega, by simp; omega⟩
          · rw [Lib.byteCells_append]
            have eg : s.get! pos = s[pos]'hp := by cases s with | mk d => exact getElem!_pos d pos hp
            rw [eg]
            exact Or.inr h1
          · rw [← hacc]; simp [foldG, hp, foldR, hbr]
        case measure =>
          simp only [World.iterPos, k1.iter hit3 (by omega), hit]
          omega
      | false =>
        have hlo := toLowerU_lo (Utf8.decode s pos).1 (by omega) (by omega)
        have cL := lower_any (Utf8.decode s pos).1 w2 hT2.c
        go_wp2_with fail
        refine cL.mono fun e w3 ⟨he, hb3⟩ => ?_
        subst he
        have hlt3 : w.heap.size + 1 < w2.heap.size := (Array.getElem?_eq_some_iff.1 hit3).1
        have hbw4 : Below w.heap.size w w3 := hbw3.trans (hb3.mono hbw3.size)
        have hit4 : w3.heap[w.heap.size + 1]? = some (.stringIter s (pos + (Utf8.decode s pos).2)) := by rw [hb3.block _ hlt3]; exact hit3
        have hI4 := hI3.below hb3
        have hsz4 : w.heap.size ≤ w3.heap.size := hbw4.size
        clear hit3 hbw3 hb3 hI3 cL hT2
        go_wp2_with (go_at_call 87; refine (Tryz.WriteRune_k w.heap.size w.heap.size _ _ hlo.1 hlo.2 _ hI4 (by rw [Lib.byteCells_length]; omega) hsz4).mono ?_)
        rintro e W1 ⟨rfl, h1, b1, k1⟩
        go_wp2
        go_roundw
        case rel =>
          have hl4 := Lib.runeCells_le (toLowerU ((Utf8.decode s pos).1 : Int))
          rw [Lib.runeCells_length] at hl4
          refine ⟨pos + (Utf8.decode s pos).2, f, acc ++ Lib.encodeRune (toLowerU (Utf8.decode s pos).1), ?_, k1.iter hit4 (by omega), hbw4.trans b1, ?_, by omega, by simp; omega⟩
          · rw [Lib.byteCells_append, Lib.byteCells_encodeRune]; exact Or.inr h1
          · rw [← hacc]; simp [foldG, hp, foldR, hbr]
        case measure =>
          simp only [World.iterPos, k1.iter hit4 (by omega), hit]
          omega
    · have hnx : ∀ ty, (Instr.next (.pointer (some ⟨w.heap.size + 1, 0, none⟩)) true ty).run Tryz.prog wr = _ := fun ty => Lib.run_next_end_at wr (w.heap.size + 1) s pos ty hit hp
      go_wp2_with (go_at_call 89; refine (Tryz.String_k w.heap.size w.heap.size acc _ hI (by omega)).mono ?_)
      rintro e W1 ⟨rfl, _, b1, _⟩
      go_wp2
      go_ret
      rw [foldG_end s fuel pos hp, List.append_nil] at hacc
      subst hacc
      exact ⟨rfl, hbw.trans b1⟩
end Seal
set_option linter.unusedVariables false
set_option maxRecDepth 100000
namespace Seal
open Go Go.Lib Go.Shelf Go.Proofs Go.Proofs.YtdiimfnakedaoaaGreatDoor
variable {W : World}
theorem tabs2_of_reads (h1 : VarReads Tryz.prog W "unicode/utf8.acceptRanges" Rows.laid_unicode_utf8_acceptRanges) (h2 : VarReads Tryz.prog W "unicode.properties" Rows.laid_unicode_properties)
    (h3 : VarReads Tryz.prog W "unicode.CaseRanges" Rows.laid_unicode_CaseRanges) (h4 : VarReads Tryz.prog W "unicode.Digit" Rows.laid_unicode_Digit) (h5 : VarReads Tryz.prog W "unicode.Letter" Rows.laid_unicode_Letter) (h6 : VarReads Tryz.prog W "unicode/utf8.first" Rows.laid_unicode_utf8_first) : Tabs2 W := by
  refine ⟨tabs_of_reads h1 h2 h4 h5 h6, ?_⟩
  have h3 : VarReads Tryz.prog W "unicode.CaseRanges" Pinned.caseRanges := h3
  rw [Pinned.caseRanges_eq] at h3
  exact caseVar_of_reads (ρ := Tryz.laysLower_ren) { Tryz.laysLower with } (by kernel_rfl) (by constructor <;> kernel_rfl) h3
theorem var2_base {P : Program} {B : Nat} {σ : Ab.Loc} {h : Nat → Option Ab.Obj} {H : Ab.Heap} {w W : World} (k : @Ab.Known (Ab.baseOf W) P B σ h H w) {g : Nat} {T : Array CaseRow} (hV : CaseVar g T W) : CaseVar g T w := by
  obtain ⟨R, oR, cap, h1, h2⟩ := hV
  refine ⟨R, oR, cap, Ab.cell_base k h1, fun i hi => ?_⟩
  obtain ⟨a1, a2, a3, a4, a5⟩ := h2 i hi
  exact ⟨Ab.cell_base k a1, Ab.cell_base k a2, Ab.cell_base k a3, Ab.cell_base k a4, Ab.cell_base k a5⟩
theorem tabs2_base {B : Nat} {σ : Ab.Loc} {h : Nat → Option Ab.Obj} {H : Ab.Heap} {w W : World} (k : @Ab.Known (Ab.baseOf W) Tryz.prog B σ h H w) (hT : Tabs2 W) : Tabs2 w := ⟨tabs_base k hT.t, var2_base k hT.c⟩
theorem fold_good (hT : Tabs2 W) {s : ByteArray} (hs : s.size ≤ 35184372088832) (H : Ab.Heap) : @Ab.OrcGood (Ab.baseOf W) Tryz.prog 45 [.string s] H (.string (foldF s)) :=
  Ab.good_of_calls rfl rfl ⟨_, _, Tryz.func45, rfl⟩ fun B σ h w k => fold_any s w (tabs2_base k hT) hs
theorem lower_good (hT : Tabs2 W) (r : Int) (H : Ab.Heap) : @Ab.OrcGood (Ab.baseOf W) Tryz.prog 88 [.int .i32 r] H (.int .i32 (toLowerU r)) :=
  Ab.good_of_calls rfl rfl ⟨_, _, Tryz.func88, rfl⟩ fun B σ h w k => lower_any r w (var2_base k hT.c)
def foldT (args : List Value) : Option Value := match args with
  | [.string s] => cond (Nat.ble s.size 35184372088832) (some (.string (foldF s))) none
  | _ => none
def lowT (args : List Value) : Option Value := match args with
  | [.int .i32 r] => some (.int .i32 (toLowerU r))
  | _ => none
noncomputable def heedS : Code := Ab.surr Tryz.prog 129 (Ab.heedT 236 299 308 48)
noncomputable def asS : Code := Ab.surr Tryz.prog 246 Ab.tailT
noncomputable def folS : Code := Ab.surr Tryz.prog 112 (Ab.followT 236 299 59)
noncomputable abbrev orcS2 : Ab.Orc := ⟨fun f args H => cond (Nat.beq f 45) (foldT args) (cond (Nat.beq f 88) (lowT args) (orcS.tab f args H)), fun f => cond (Nat.beq f 129) (some heedS) (cond (Nat.beq f 246) (some asS) (cond (Nat.beq f 112) (some folS) none))⟩
theorem foldT_some {args : List Value} {v : Value} (h : foldT args = some v) : ∃ s, args = [.string s] ∧ s.size ≤ 35184372088832 ∧ v = .string (foldF s) := by
  unfold foldT at h
  split at h
  · rename_i s
    cases hb : Nat.ble s.size 35184372088832 with
    | false => rw [hb] at h; cases h
    | true =>
      rw [hb] at h
      cases h
      exact ⟨s, rfl, Nat.le_of_ble_eq_true hb, rfl⟩
  · cases h
theorem lowT_some {args : List Value} {v : Value} (h : lowT args = some v) : ∃ r, args = [.int .i32 r] ∧ v = .int .i32 (toLowerU r) := by
  unfold lowT at h
  split at h
  · cases h; exact ⟨_, rfl, rfl⟩
  · cases h
theorem tabS2_ok (hT : Tabs2 W) (f : FuncId) (args : List Value) (H : Ab.Heap) (v : Value) (h : orcS2.tab f args H = some v) : @Ab.OrcGood (Ab.baseOf W) Tryz.prog f args H v := by
  have h : cond (Nat.beq f 45) (foldT args) (cond (Nat.beq f 88) (lowT args) (orcS.tab f args H)) = some v := h
  cases h1 : Nat.beq f 45 with
  | true =>
    rw [h1] at h
    obtain rfl := Nat.eq_of_beq_eq_true h1
    obtain ⟨s, rfl, hs, rfl⟩ := foldT_some h
    exact fold_good hT hs H
  | false =>
  rw [h1] at h
  cases h2 : Nat.beq f 88 with
  | true =>
    rw [h2] at h
    obtain rfl := Nat.eq_of_beq_eq_true h2
    obtain ⟨r, rfl, rfl⟩ := lowT_some h
    exact lower_good hT r H
  | false =>
  rw [h2] at h
  exact tabS_ok hT.t f args H v h
end Seal
set_option linter.unusedVariables false
set_option maxRecDepth 100000
namespace Seal
open Go Go.Ab
variable {W : World}
noncomputable abbrev P0 : Program := Go.Proofs.Tryz.prog
noncomputable abbrev hB : Code := surr P0 129 id
noncomputable abbrev hG : Code := surr P0 193 id
noncomputable abbrev hX : Code := cr (cr hB)
noncomputable abbrev hA1 : Code := ct (cr (cl hX))
noncomputable abbrev hA2 : Code := cr (cr hX)
noncomputable abbrev hBd : Code := cl (cr hX)
noncomputable abbrev hR : Code := ct (cr (cr (cl hA2)))
noncomputable abbrev hmk : Oper := opAt (cl (cr hB)) 0
noncomputable abbrev hD : Oper := opAt (cl (cr hB)) 1
theorem heed_clo [Base] : Clo P0 193 (fnAt P0 193) 173 255 9 44 (.int .i64 192) (cops (ct (cr hG))) := by
  have hne := neq_run (P := P0) (ne := opAt (cl hG) 1) (t := (match (opAt (cl hG) 1).op with | .binOp _ t _ _ _ => t | _ => 0)) (yt := (match (opAt (cl hG) 1).op with | .binOp _ _ _ _ t => t | _ => 0)) (ms := #[]) (by kernel_rfl) (by kernel_rfl)
  refine ⟨fn_at (by kernel_rfl), ⟨cid (cl hG), cid (ct (cr hG)), opAt (cl hG) 0, opAt (cl hG) 1, by kernel_rfl, rec_run (tys := (callOf (opAt (cl hG) 0)).argTypes) (by kernel_rfl), by kernel_rfl, by kernel_rfl, by kernel_rfl, by kernel_rfl, hne.1, hne.2⟩, by kernel_rfl, ?_, ⟨⟨opAt (ct (cr hG)) 0, opAt (ct (cr hG)) 1, opAt (ct (cr hG)) 2, opAt (ct (cr hG)) 3, by kernel_rfl, ⟨by kernel_rfl, by kernel_rfl, by kernel_rfl⟩, ⟨by kernel_rfl, by kernel_rfl, by kernel_rfl⟩, ⟨by kernel_rfl, by kernel_rfl, by kernel_rfl⟩, ⟨by kernel_rfl, by kernel_rfl, by kernel_rfl⟩⟩, by kernel_rfl⟩⟩
  intro tmps w
  have hr : (fnAt P0 193).results = #[] := by kernel_rfl
  rw [results_eq, Array.mapM_eq_mapM_toList, hr]
  simp
theorem heed_hd : Hd P0 173 255 9 44 (.int .i64 192) 2 44 45 46 (cops (cl hR)).toList :=
  ⟨⟨opAt (cl hR) 0, opAt (cl hR) 1, opAt (cl hR) 2, opAt (cl hR) 3, by kernel_rfl, ⟨by kernel_rfl, by kernel_rfl, by kernel_rfl⟩, ⟨by kernel_rfl, by kernel_rfl, by kernel_rfl⟩, ⟨by kernel_rfl, by kernel_rfl, by kernel_rfl⟩, ⟨by kernel_rfl, by kernel_rfl, by kernel_rfl⟩⟩, by kernel_rfl⟩
theorem r9_ret [Base] {me : Self} {R : Code} {i : Nat} {ops : Array Oper} (h : R = .seq (.region i ops false) .ret) (T : List Value) (H : Heap) (o : Out) (hr : (codeC P0 true R).f me T H = some o) : o.ex = .ret ∧ ∃ o1, opsA P0 me ops.toList ops.toList T H = some o1 ∧ o1.H = o.H := by
  subst h
  have hr : thenA (opsA P0 me ops.toList ops.toList T H) (fun T H => some ⟨.ret, T, H⟩) = some o := hr
  obtain ⟨o1, h1, h2⟩ := thenA_some hr
  rcases h2 with ⟨_, h2⟩ | ⟨hx, rfl⟩
  · cases h2; exact ⟨rfl, o1, h1, rfl⟩
  · exfalso
    have : ∀ (l : List Oper) (T : List Value) (H : Heap), opsA P0 me ops.toList l T H = some o → o.ex = .normal := by
      intro l
      induction l with
      | nil => intro T H h; cases h; rfl
      | cons x l ih =>
        intro T H h
        have h : opF1 P0 me x ((wantedC ops.toList x.guard).f T) T H (opsA P0 me ops.toList l) = some o := h
        unfold opF1 at h
        split at h
        · split at h
          · exact ih _ _ h
          · cases h
        · exact ih _ _ h
    exact hx (this _ _ _ h1)
theorem hd_load [Base] {me : Self} {all l : List Oper} {tt t7 f ts : Nat} {kv : Value} {s b c d : Nat} (h : Hd P0 tt t7 f ts kv s b c d l) (T : List Value) (H : Heap) (o : Out) (hr : opsA P0 me all l T H = some o) : ∃ v, (loadC P0 tt).f (nth T s) H = some (v, H) := by
  obtain ⟨⟨o1, o2, o3, o4, rfl, ⟨a1, a2, a3⟩, _⟩, _⟩ := h
  have hr : opF1 P0 me o1 ((wantedC all o1.guard).f T) T H (opsA P0 me all [o2, o3, o4]) = some o := hr
  rw [a3] at hr
  have hr : opF1 P0 me o1 true T H (opsA P0 me all [o2, o3, o4]) = some o := hr
  unfold opF1 at hr
  simp only at hr
  rw [step_load a1] at hr
  split at hr
  · rename_i v H1 h1
    obtain rfl := loadC_H h1
    exact ⟨v, h1⟩
  · cases hr
noncomputable abbrev hK : Nat := 48
theorem e15 : P0.underlying P0.rt.typeAssertionError = some (.pointer (match P0.underlying P0.rt.typeAssertionError with | some (.pointer e) => e | _ => 0)) := by kernel_rfl
noncomputable abbrev tdG : TypeDesc := (P0.underlying 299).getD .bool
noncomputable abbrev tdE : TypeDesc := (P0.underlying 308).getD .bool
theorem uG : P0.underlying 299 = some tdG := by kernel_rfl
theorem uE : P0.underlying 308 = some tdE := by kernel_rfl
def isIface : TypeDesc → Bool | .interface _ => true | _ => false
theorem nif {td : TypeDesc} (h : isIface td = false) : ∀ ms, td ≠ .interface ms := by rintro ms rfl; cases h
theorem heed_sim [Base] [Orc] (hP : Good P0) {me : Self} (hS : SelfOk P0 me) : SimE P0 me 2 hK hR (cr (cr heedS)) hX := by
  have e0 : hX = .seq (.seq (cl (cl hX)) (.cond (cc? (cr (cl hX))) hA1 .skip)) (.seq hBd hA2) := by kernel_rfl
  have e1 : cr (cr heedS) = .seq (.seq (cl (cl hX)) (.cond (cc? (cr (cl hX))) (guardT hmk 1 236 299 hK hA1 hR) .skip)) (.seq hBd (guardT hmk 1 236 308 hK hA2 hR)) := by kernel_rfl
  have eR : hR = .seq (.region (cid (cl hR)) (cops (cl hR)) false) .ret := by kernel_rfl
  have hRr : ∀ T H o, (codeC P0 true hR).f me T H = some o → o.ex = .ret := fun T H o h => (r9_ret eR T H o h).1
  have hRl : ∀ T H o, (codeC P0 true hR).f me T H = some o → ∃ v, (loadC P0 173).f (nth T 2) H = some (v, H) := by
    intro T H o h
    obtain ⟨_, o1, h1, _⟩ := r9_ret eR T H o h
    exact hd_load heed_hd T H o1 h1
  rw [e1, e0]
  refine SimE.seq hS hRr (SimX.seq hS hRr (SimX.plain hP hS (by kernel_rfl) (by kernel_rfl) (by kernel_rfl) (by kernel_rfl)) (SimX.cond ?_ (SimX.plain hP hS rfl rfl rfl rfl))) (SimE.seq hS hRr (SimX.plain hP hS (by kernel_rfl) (by kernel_rfl) (by kernel_rfl) (by kernel_rfl)) ?_)
  · refine SimX.guard (tt := 173) hP hS hRr hRl uG (nif (by kernel_rfl)) (by kernel_rfl) (by kernel_rfl) (by kernel_rfl) (by kernel_rfl) (by decide) ?_
    have e3 : hA1 = .seq (.region (cid (cl hA1)) (cops (cl hA1)) true) .ret := by kernel_rfl
    rw [e3]
    refine Pan.seq (Pan.any (t := 236) (y := 14) (p := 3) (m := 2) (harm := [0, 1, 2]) (o := opAt (cl hA1) 3) hP hS e15 uG (nif (by kernel_rfl)) (by kernel_rfl) (by kernel_rfl) (by kernel_rfl) (by decide) ?_ (by kernel_rfl))
    intro i hi
    rcases List.mem_cons.1 hi with rfl | hi
    · exact ⟨opAt (cl hA1) 0, 12, by kernel_rfl, by kernel_rfl, by kernel_rfl, by decide, by decide, .inr ⟨by kernel_rfl, by decide, by decide⟩⟩
    rcases List.mem_cons.1 hi with rfl | hi
    · exact ⟨opAt (cl hA1) 1, 13, by kernel_rfl, by kernel_rfl, by kernel_rfl, by decide, by decide, .inr ⟨by kernel_rfl, by decide, by decide⟩⟩
    rcases List.mem_cons.1 hi with rfl | hi
    · exact ⟨opAt (cl hA1) 2, 14, by kernel_rfl, by kernel_rfl, by kernel_rfl, by decide, by decide, .inl ⟨by kernel_rfl, rfl, rfl⟩⟩
    cases hi
  · refine SimE.guard (tt := 173) hP hS hRr hRl uE (nif (by kernel_rfl)) (by kernel_rfl) (by decide) ?_
    have e3 : hA2 = .seq (.seq (.region (cid (cl (cl hA2))) (cops (cl (cl hA2))) false) (cr (cl hA2))) (cr hA2) := by kernel_rfl
    rw [e3]
    exact Pan.seq (Pan.seq (Pan.ord (t := 236) (y := 31) (m := opAt (cl (cl hA2)) 0) (o := opAt (cl (cl hA2)) 1) hP hS e15 uE (nif (by kernel_rfl)) (by kernel_rfl) (by kernel_rfl) (by kernel_rfl) (by kernel_rfl) (by kernel_rfl) (by kernel_rfl) (by kernel_rfl) (by decide)))
theorem heed_good [Base] [Orc] (hP : Good P0) : BodGood P0 129 heedS := by
  have e : heedS = .seq (.region (cid (cl hB)) (cops (cl hB)) false) (.seq (.region (cid (cl (cr hB))) #[hmk] false) (cr (cr heedS))) := by kernel_rfl
  have eR : hR = .seq (.region (cid (cl hR)) (cops (cl hR)) false) .ret := by kernel_rfl
  rw [e]
  refine bod_caught (g := 193) (t := 6) (s := 2) (k := hK) (b := 44) (c := 45) (d := 46) (fn := fnAt P0 129) (i1 := cid (cl (cr hB))) (i9 := cid (cl hR)) (ops9 := cops (cl hR)) (mk := hmk) (D := hD) (cc := callOf hD) (Bc := hX) hP (fn_at (by kernel_rfl)) (by kernel_rfl) (by kernel_rfl) (by kernel_rfl) (by kernel_rfl) (by kernel_rfl) (by kernel_rfl) (by kernel_rfl) (by kernel_rfl) (by kernel_rfl) (Nat.le_of_ble_eq_true (by kernel_rfl)) (Nat.le_of_ble_eq_true (by kernel_rfl)) (Nat.le_of_ble_eq_true (by kernel_rfl)) (by decide) (by decide) (by kernel_rfl) (by kernel_rfl) heed_clo heed_hd (by decide) (by decide) (by decide) (by kernel_rfl) ?_
  intro me hS
  rw [← eR]
  exact heed_sim hP hS
noncomputable abbrev aB : Code := surr P0 246 id
noncomputable abbrev a4 : Code := cl (cr (cr (cr aB)))
noncomputable abbrev a5 : Code := cl (cr (cr (cr (cr aB))))
noncomputable abbrev aD : Oper := opAt a4 5
noncomputable def tmpsOk (ops : Array Oper) (l : List Operand) : Bool := l.all fun x => match x with | .tmp i => (plans P0 ops.toList).all fun o => o.1.dst != some i | _ => false
theorem tmpsOk_spec {ops : Array Oper} {l : List Operand} (h : tmpsOk ops l = true) : ∀ x ∈ l, ∃ i, x = .tmp i ∧ ∀ o ∈ plans P0 ops.toList, o.1.dst ≠ some i := by
  intro x hx
  have h1 := List.all_eq_true.1 h x hx
  cases x with
  | tmp i =>
    refine ⟨i, rfl, fun o ho => ?_⟩
    have h2 := List.all_eq_true.1 h1 o ho
    simpa using h2
  | _ => cases h1
theorem as_good (hP : Good P0) [Base] : @BodGood _ orcS2 P0 246 asS := by
  letI := orcS2
  have e : asS = .seq (cl aB) (.seq (cl (cr aB)) (.seq (cl (cr (cr aB))) (.seq (.region (cid a4) ((cops a4).toList.take 5).toArray false) (.seq (.region (cid a5) (cops a5) true) (.seq (.region (cid a4) #[{ aD with op := .call (callOf aD), dst := none }] false) .ret))))) := by kernel_rfl
  rw [e]
  exact bod_tail (i4 := cid a4) (ops4 := cops a4) (g := 25) (fn := fnAt P0 246) (gn := fnAt P0 25) (gc := surr P0 25 id) (D := aD) (cc := callOf aD) hP (fn_at (by kernel_rfl)) (by kernel_rfl) (by kernel_rfl) (by kernel_rfl) (by kernel_rfl) (by kernel_rfl) (fun o ho => by
    have : ∀ o ∈ (cops a4).toList.take 5, o.guard = none := by
      have h : ((cops a4).toList.take 5).all (fun o => o.guard.isNone) = true := by kernel_rfl
      intro o ho
      have := List.all_eq_true.1 h o ho
      simpa using this
    exact this o ho) (by kernel_rfl) (by kernel_rfl) (by kernel_rfl) (by kernel_rfl) rfl (by kernel_rfl) rfl (tmpsOk_spec (by kernel_rfl)) (fn_at (by kernel_rfl)) (by kernel_rfl) (by kernel_rfl) (fun args H => rfl) rfl
noncomputable abbrev fB : Code := surr P0 112 id
noncomputable abbrev fG : Code := surr P0 170 id
noncomputable abbrev fX : Code := cr (cr fB)
noncomputable abbrev fA : Code := cr fX
noncomputable abbrev fR : Code := ct (cr (cl (cr fA)))
noncomputable abbrev fmk : Oper := opAt (cl (cr fB)) 0
noncomputable abbrev fD : Oper := opAt (cl (cr fB)) 1
theorem fol_clo [Base] : Clo P0 170 (fnAt P0 170) 171 234 7 44 (.int .i64 192) (cops (ct (cr fG))) := by
  have hne := neq_run (P := P0) (ne := opAt (cl fG) 1) (t := (match (opAt (cl fG) 1).op with | .binOp _ t _ _ _ => t | _ => 0)) (yt := (match (opAt (cl fG) 1).op with | .binOp _ _ _ _ t => t | _ => 0)) (ms := #[]) (by kernel_rfl) (by kernel_rfl)
  refine ⟨fn_at (by kernel_rfl), ⟨cid (cl fG), cid (ct (cr fG)), opAt (cl fG) 0, opAt (cl fG) 1, by kernel_rfl, rec_run (tys := (callOf (opAt (cl fG) 0)).argTypes) (by kernel_rfl), by kernel_rfl, by kernel_rfl, by kernel_rfl, by kernel_rfl, hne.1, hne.2⟩, by kernel_rfl, ?_, ⟨⟨opAt (ct (cr fG)) 0, opAt (ct (cr fG)) 1, opAt (ct (cr fG)) 2, opAt (ct (cr fG)) 3, by kernel_rfl, ⟨by kernel_rfl, by kernel_rfl, by kernel_rfl⟩, ⟨by kernel_rfl, by kernel_rfl, by kernel_rfl⟩, ⟨by kernel_rfl, by kernel_rfl, by kernel_rfl⟩, ⟨by kernel_rfl, by kernel_rfl, by kernel_rfl⟩⟩, by kernel_rfl⟩⟩
  intro tmps w
  have hr : (fnAt P0 170).results = #[] := by kernel_rfl
  rw [results_eq, Array.mapM_eq_mapM_toList, hr]
  simp
theorem fol_hd : Hd P0 171 234 7 44 (.int .i64 192) 2 52 53 54 (cops (cl fR)).toList :=
  ⟨⟨opAt (cl fR) 0, opAt (cl fR) 1, opAt (cl fR) 2, opAt (cl fR) 3, by kernel_rfl, ⟨by kernel_rfl, by kernel_rfl, by kernel_rfl⟩, ⟨by kernel_rfl, by kernel_rfl, by kernel_rfl⟩, ⟨by kernel_rfl, by kernel_rfl, by kernel_rfl⟩, ⟨by kernel_rfl, by kernel_rfl, by kernel_rfl⟩⟩, by kernel_rfl⟩
theorem fol_sim [Base] [Orc] (hP : Good P0) {me : Self} (hS : SelfOk P0 me) : SimE P0 me 2 59 fR (cr (cr folS)) fX := by
  have e0 : fX = .seq (cl fX) fA := by kernel_rfl
  have e1 : cr (cr folS) = .seq (cl fX) (guardT fmk 1 236 299 59 fA fR) := by kernel_rfl
  have eR : fR = .seq (.region (cid (cl fR)) (cops (cl fR)) false) .ret := by kernel_rfl
  have hRr : ∀ T H o, (codeC P0 true fR).f me T H = some o → o.ex = .ret := fun T H o h => (r9_ret eR T H o h).1
  have hRl : ∀ T H o, (codeC P0 true fR).f me T H = some o → ∃ v, (loadC P0 171).f (nth T 2) H = some (v, H) := by
    intro T H o h
    obtain ⟨_, o1, h1, _⟩ := r9_ret eR T H o h
    exact hd_load fol_hd T H o1 h1
  rw [e1, e0]
  refine SimE.seq hS hRr (SimX.plain hP hS (by kernel_rfl) (by kernel_rfl) (by kernel_rfl) (by kernel_rfl)) ?_
  refine SimE.guard (tt := 171) hP hS hRr hRl uG (nif (by kernel_rfl)) (by kernel_rfl) (by decide) ?_
  have e3 : fA = .seq (.region (cid (cl fA)) (cops (cl fA)) false) (cr fA) := by kernel_rfl
  rw [e3]
  exact Pan.seq (Pan.ord (t := 236) (y := 29) (m := opAt (cl fA) 0) (o := opAt (cl fA) 1) hP hS e15 uG (nif (by kernel_rfl)) (by kernel_rfl) (by kernel_rfl) (by kernel_rfl) (by kernel_rfl) (by kernel_rfl) (by kernel_rfl) (by kernel_rfl) (by decide))
theorem fol_good [Base] [Orc] (hP : Good P0) : BodGood P0 112 folS := by
  have e : folS = .seq (.region (cid (cl fB)) (cops (cl fB)) false) (.seq (.region (cid (cl (cr fB))) #[fmk] false) (cr (cr folS))) := by kernel_rfl
  have eR : fR = .seq (.region (cid (cl fR)) (cops (cl fR)) false) .ret := by kernel_rfl
  rw [e]
  refine bod_caught (g := 170) (t := 7) (s := 2) (k := 59) (b := 52) (c := 53) (d := 54) (fn := fnAt P0 112) (i1 := cid (cl (cr fB))) (i9 := cid (cl fR)) (ops9 := cops (cl fR)) (mk := fmk) (D := fD) (cc := callOf fD) (Bc := fX) hP (fn_at (by kernel_rfl)) (by kernel_rfl) (by kernel_rfl) (by kernel_rfl) (by kernel_rfl) (by kernel_rfl) (by kernel_rfl) (by kernel_rfl) (by kernel_rfl) (by kernel_rfl) (Nat.le_of_ble_eq_true (by kernel_rfl)) (Nat.le_of_ble_eq_true (by kernel_rfl)) (Nat.le_of_ble_eq_true (by kernel_rfl)) (by decide) (by decide) (by kernel_rfl) (by kernel_rfl) fol_clo fol_hd (by decide) (by decide) (by decide) (by kernel_rfl) ?_
  intro me hS
  rw [← eR]
  exact fol_sim hP hS
theorem orcS2_ok (hT : Tabs2 W) : @OrcOk (baseOf W) orcS2 P0 := by
  letI := baseOf W
  letI := orcS2
  have hP := good_of good
  refine ⟨tabS2_ok hT, fun f c h => ?_⟩
  have h : cond (Nat.beq f 129) (some heedS) (cond (Nat.beq f 246) (some asS) (cond (Nat.beq f 112) (some folS) none)) = some c := h
  cases h1 : Nat.beq f 129 with
  | true =>
    rw [h1] at h
    obtain rfl := Nat.eq_of_beq_eq_true h1
    cases h
    exact heed_good hP
  | false =>
  rw [h1] at h
  cases h2 : Nat.beq f 246 with
  | true =>
    rw [h2] at h
    obtain rfl := Nat.eq_of_beq_eq_true h2
    cases h
    exact as_good hP
  | false =>
  rw [h2] at h
  cases h3 : Nat.beq f 112 with
  | true =>
    rw [h3] at h
    obtain rfl := Nat.eq_of_beq_eq_true h3
    cases h
    exact fol_good hP
  | false => rw [h3] at h; cases h
end Seal
