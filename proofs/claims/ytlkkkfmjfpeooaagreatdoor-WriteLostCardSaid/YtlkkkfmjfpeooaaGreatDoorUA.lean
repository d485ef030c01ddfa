/- texts of the proof, one behind the other -/
import Derived.Test.YtlkkkfmjfpeooaaGreatDoorProg
import Derived.WalkKit
import Derived.KernelRfl
import Derived.Shelf.Unicode.PredsPay
import Derived.Shelf.Unicode.DecodeAny
import Derived.Lib.OthersKept
import Derived.Test.YtlkkkfmjfpeooaaGreatDoorRows
import Derived.PinnedBridge
import Derived.Lib.LaidU8T
import Derived.Lib.LaidRTab
import Derived.Lib.LaidTab
import Derived.Test.YtlkkkfmjfpeooaaGreatDoorAbD
set_option linter.unusedVariables false
set_option linter.unusedSimpArgs false
set_option linter.unusedSectionVars false
namespace Go.Proofs
open Go.RowKit Go.Shelf Go.Lib
set_option maxRecDepth 100000
def Tryz.laysDigit_ren : Ren :=
{
  f := fun x =>
    match x with
    | 198 => 72
    | 261 => 86
    | 311 => 95
    | 312 => 96
    | n => n,
  t := fun x =>
    match x with
    | 21 => 21
    | 4 => 4
    | 141 => 164
    | 0 => 0
    | 196 => 178
    | 193 => 175
    | 3 => 3
    | 51 => 161
    | 198 => 181
    | 49 => 179
    | 194 => 176
    | 201 => 184
    | 226 => 195
    | 46 => 124
    | 227 => 196
    | n => n,
  g := fun x =>
    match x with
    | 5 => 2
    | n => n }
def Tryz.laysLetter_ren : Ren :=
{
  f := fun x =>
    match x with
    | 200 => 71
    | 261 => 86
    | 311 => 95
    | 312 => 96
    | n => n,
  t := fun x =>
    match x with
    | 21 => 21
    | 4 => 4
    | 51 => 161
    | 5 => 5
    | 119 => 162
    | 0 => 0
    | 141 => 164
    | 196 => 178
    | 193 => 175
    | 3 => 3
    | 198 => 181
    | 49 => 179
    | 194 => 176
    | 201 => 184
    | 226 => 195
    | 46 => 124
    | 227 => 196
    | n => n,
  g := fun x =>
    match x with
    | 7 => 0
    | 8 => 1
    | n => n }
def Tryz.laysDecode_ren : Ren :=
{
  f := fun x =>
    match x with
    | 197 => 104
    | 260 => 105
    | n => n,
  t := fun x =>
    match x with
    | 9 => 9
    | 21 => 21
    | 3 => 3
    | 4 => 4
    | 5 => 5
    | 105 => 198
    | 119 => 162
    | 0 => 0
    | 46 => 124
    | 139 => 202
    | 138 => 201
    | n => n,
  g := fun x =>
    match x with
    | 3 => 3
    | 4 => 4
    | n => n }
theorem Tryz.laysLetter : Lays.n200 Tryz.prog Tryz.laysLetter_ren :=
{ mixed := Eq.refl true, f200 := Eq.trans Tryz.func71 (congrArg some (Eq.refl (Body.n200 Tryz.laysLetter_ren))),
  f261 := Eq.trans Tryz.func86 (congrArg some (Eq.refl (Body.n261 Tryz.laysLetter_ren))),
  f311 := Eq.trans Tryz.func95 (congrArg some (Eq.refl (Body.n311 Tryz.laysLetter_ren))),
  f312 := Eq.trans Tryz.func96 (congrArg some (Eq.refl (Body.n312 Tryz.laysLetter_ren))), t0 := Tryz.underlying0,
  a0 := Tryz.isAgg0, z0 := Tryz.sizeOf0, v0 := Tryz.zeroValue0, t3 := Tryz.underlying3, a3 := Tryz.isAgg3,
  z3 := Tryz.sizeOf3, v3 := Tryz.zeroValue3, t4 := Tryz.underlying4, a4 := Tryz.isAgg4, z4 := Tryz.sizeOf4,
  v4 := Tryz.zeroValue4, t5 := Tryz.underlying5, a5 := Tryz.isAgg5, z5 := Tryz.sizeOf5, v5 := Tryz.zeroValue5,
  t21 := Tryz.underlying21, a21 := Tryz.isAgg21, z21 := Tryz.sizeOf21, v21 := Tryz.zeroValue21,
  t46 := Tryz.underlying124, a46 := Tryz.isAgg124, z46 := Tryz.sizeOf124, v46 := Tryz.zeroValue124,
  t49 := Tryz.underlying179, a49 := Tryz.isAgg179, z49 := Tryz.sizeOf179, v49 := Tryz.zeroValue179,
  t51 := Tryz.underlying161, a51 := Tryz.isAgg161, z51 := Tryz.sizeOf161, v51 := Tryz.zeroValue161,
  t119 := Tryz.underlying162, a119 := Tryz.isAgg162, z119 := Tryz.sizeOf162, t141 := Tryz.underlying164,
  a141 := Tryz.isAgg164, z141 := Tryz.sizeOf164, v141 := Tryz.zeroValue164, t193 := Tryz.underlying175,
  a193 := Tryz.isAgg175, z193 := Tryz.sizeOf175, v193 := Tryz.zeroValue175, t194 := Tryz.underlying176,
  a194 := Tryz.isAgg176, z194 := Tryz.sizeOf176, v194 := Tryz.zeroValue176, t196 := Tryz.underlying178,
  a196 := Tryz.isAgg178, z196 := Tryz.sizeOf178, v196 := Tryz.zeroValue178, t198 := Tryz.underlying181,
  a198 := Tryz.isAgg181, z198 := Tryz.sizeOf181, v198 := Tryz.zeroValue181, t201 := Tryz.underlying184,
  a201 := Tryz.isAgg184, z201 := Tryz.sizeOf184, v201 := Tryz.zeroValue184, t226 := Tryz.underlying195,
  a226 := Tryz.isAgg195, z226 := Tryz.sizeOf195, v226 := Tryz.zeroValue195, t227 := Tryz.underlying196,
  a227 := Tryz.isAgg196, z227 := Tryz.sizeOf196, v227 := Tryz.zeroValue196,
  g7 := (by kernel_rfl), g8 := (by kernel_rfl) }
theorem Tryz.laysDigit : Lays.n198 Tryz.prog Tryz.laysDigit_ren :=
{ mixed := Eq.refl true, f198 := Eq.trans Tryz.func72 (congrArg some (Eq.refl (Body.n198 Tryz.laysDigit_ren))),
  f261 := Eq.trans Tryz.func86 (congrArg some (Eq.refl (Body.n261 Tryz.laysDigit_ren))),
  f311 := Eq.trans Tryz.func95 (congrArg some (Eq.refl (Body.n311 Tryz.laysDigit_ren))),
  f312 := Eq.trans Tryz.func96 (congrArg some (Eq.refl (Body.n312 Tryz.laysDigit_ren))), t0 := Tryz.underlying0,
  a0 := Tryz.isAgg0, z0 := Tryz.sizeOf0, v0 := Tryz.zeroValue0, t3 := Tryz.underlying3, a3 := Tryz.isAgg3,
  z3 := Tryz.sizeOf3, v3 := Tryz.zeroValue3, t4 := Tryz.underlying4, a4 := Tryz.isAgg4, z4 := Tryz.sizeOf4,
  v4 := Tryz.zeroValue4, t21 := Tryz.underlying21, a21 := Tryz.isAgg21, z21 := Tryz.sizeOf21, v21 := Tryz.zeroValue21,
  t46 := Tryz.underlying124, a46 := Tryz.isAgg124, z46 := Tryz.sizeOf124, v46 := Tryz.zeroValue124,
  t49 := Tryz.underlying179, a49 := Tryz.isAgg179, z49 := Tryz.sizeOf179, v49 := Tryz.zeroValue179,
  t51 := Tryz.underlying161, a51 := Tryz.isAgg161, z51 := Tryz.sizeOf161, v51 := Tryz.zeroValue161,
  t141 := Tryz.underlying164, a141 := Tryz.isAgg164, z141 := Tryz.sizeOf164, v141 := Tryz.zeroValue164,
  t193 := Tryz.underlying175, a193 := Tryz.isAgg175, z193 := Tryz.sizeOf175, v193 := Tryz.zeroValue175,
  t194 := Tryz.underlying176, a194 := Tryz.isAgg176, z194 := Tryz.sizeOf176, v194 := Tryz.zeroValue176,
  t196 := Tryz.underlying178, a196 := Tryz.isAgg178, z196 := Tryz.sizeOf178, v196 := Tryz.zeroValue178,
  t198 := Tryz.underlying181, a198 := Tryz.isAgg181, z198 := Tryz.sizeOf181, v198 := Tryz.zeroValue181,
  t201 := Tryz.underlying184, a201 := Tryz.isAgg184, z201 := Tryz.sizeOf184, v201 := Tryz.zeroValue184,
  t226 := Tryz.underlying195, a226 := Tryz.isAgg195, z226 := Tryz.sizeOf195, v226 := Tryz.zeroValue195,
  t227 := Tryz.underlying196, a227 := Tryz.isAgg196, z227 := Tryz.sizeOf196, v227 := Tryz.zeroValue196,
  g5 := (by kernel_rfl) }
theorem Tryz.laysDecode : Lays.n197 Tryz.prog Tryz.laysDecode_ren :=
{ mixed := Eq.refl true, f197 := Eq.trans Tryz.func104 (congrArg some (Eq.refl (Body.n197 Tryz.laysDecode_ren))),
  f260 := Eq.trans Tryz.func105 (congrArg some (Eq.refl (Body.n260 Tryz.laysDecode_ren))), t0 := Tryz.underlying0,
  a0 := Tryz.isAgg0, z0 := Tryz.sizeOf0, v0 := Tryz.zeroValue0, t3 := Tryz.underlying3, a3 := Tryz.isAgg3,
  z3 := Tryz.sizeOf3, v3 := Tryz.zeroValue3, t4 := Tryz.underlying4, a4 := Tryz.isAgg4, z4 := Tryz.sizeOf4,
  v4 := Tryz.zeroValue4, t5 := Tryz.underlying5, a5 := Tryz.isAgg5, z5 := Tryz.sizeOf5, v5 := Tryz.zeroValue5,
  t9 := Tryz.underlying9, a9 := Tryz.isAgg9, z9 := Tryz.sizeOf9, v9 := Tryz.zeroValue9, t21 := Tryz.underlying21,
  a21 := Tryz.isAgg21, z21 := Tryz.sizeOf21, v21 := Tryz.zeroValue21, t46 := Tryz.underlying124, a46 := Tryz.isAgg124,
  z46 := Tryz.sizeOf124, v46 := Tryz.zeroValue124, t105 := Tryz.underlying198, a105 := Tryz.isAgg198,
  z105 := Tryz.sizeOf198, v105 := Tryz.zeroValue198, t119 := Tryz.underlying162, a119 := Tryz.isAgg162,
  z119 := Tryz.sizeOf162, t138 := Tryz.underlying201, a138 := Tryz.isAgg201, z138 := Tryz.sizeOf201,
  v138 := Tryz.zeroValue201, t139 := Tryz.underlying202, a139 := Tryz.isAgg202, z139 := Tryz.sizeOf202,
  v139 := Tryz.zeroValue202, g3 := (by kernel_rfl),
  g4 := (by kernel_rfl) }
end Go.Proofs
set_option linter.unusedVariables false
set_option maxRecDepth 100000
namespace Go.Ab
open Go Go.Lib
variable {P : Program} {B : Nat} {σ : Loc} {h : Nat → Option Obj} {H : Heap} {w W : World}
theorem zYc (k : @Known (baseOf W) P B σ h H w) {a : Addr} {v : Value} (hc : W.cell? a = some v) : w.cell? a = some v := by
  letI := baseOf W
  have hlt : a.block < W.heap.size := by
    rcases Nat.lt_or_ge a.block W.heap.size with h | h
    · exact h
    · unfold World.cell? at hc
      rw [Array.getElem?_eq_none h] at hc; cases hc
  have e : w.heap[a.block]? = W.heap[a.block]? := k.base _ (Nat.lt_of_lt_of_le hlt k.lo)
  unfold World.cell? at *
  rw [e]; exact hc
theorem zUw (k : @Known (baseOf W) P B σ h H w) {n : String} {v : Array Value} (hc : W.var? P n = some v) : w.var? P n = some v := by
  letI := baseOf W
  unfold World.var? at *
  cases hg : P.globalNamed n with
  | none => rw [hg] at hc; cases hc
  | some g =>
    rw [hg] at hc
    have hlt : g < W.heap.size := by
      rcases Nat.lt_or_ge g W.heap.size with h | h
      · exact h
      · have hc : (match W.heap[g]? with | some (.cells cs _ _) => some cs | _ => none) = some v := hc
        rw [Array.getElem?_eq_none h] at hc; cases hc
    have e : w.heap[g]? = W.heap[g]? := k.base _ (Nat.lt_of_lt_of_le hlt k.lo)
    show (match w.heap[g]? with | some (.cells cs _ _) => some cs | _ => none) = some v
    rw [e]; exact hc
theorem zdD (k : @Known (baseOf W) P B σ h H w) {n : String} {kd : IntKind} {zs : List Int} (hT : TabIs P W n kd zs) : TabIs P w n kd zs := zUw k hT
theorem zKt (k : @Known (baseOf W) P B σ h H w) {g : Nat} {T : RTab} (hV : RVar g T W) : RVar g T w := by
  obtain ⟨Tb, oT, h1, a16, a32, R16, o16, c16, R32, o32, c32, h2, h3, h4, h5, h6, h7, h8, h9⟩ := hV
  refine ⟨Tb, oT, zYc k h1, a16, a32, R16, o16, c16, R32, o32, c32, zYc k h2, zYc k h3, zYc k h4, h5, h6, fun i hi => ?_, fun i hi => ?_, h9⟩
  · obtain ⟨x, y, z⟩ := h7 i hi
    exact ⟨zYc k x, zYc k y, zYc k z⟩
  · obtain ⟨x, y, z⟩ := h8 i hi
    exact ⟨zYc k x, zYc k y, zYc k z⟩
theorem zWh {f : FuncId} {args : List Value} {v : Value} (ha : args.all flat2 = true) (hv : flat3 v = true) (hf : ∃ fn c, P.funcs[f]? = some fn ∧ fn.body = some c)
    (hc : ∀ (B : Nat) (σ : Loc) (h : Nat → Option Obj) (w : World), @Known (baseOf W) P B σ h H w → Calls P f args.toArray w fun e w' => e = .returned v ∧ RowKit.Below w.heap.size w w') : @OrcGood (baseOf W) P f args H v := by
  intro B σ h w args' k hva
  have e : args' = args.toArray := Array.ext' (by rw [hva.flat2 ha])
  subst e
  refine ⟨hf, CallsIn.mono (callsIn_wide.2 (hc B σ h w k)) ?_⟩
  rintro e w' ⟨rfl, hb⟩
  exact ⟨v, rfl, zvC hv, hb⟩
end Go.Ab
namespace Seal
open Go Go.Ab Go.Lib Go.Proofs
variable {W : World}
theorem zAv (hT : TabIs Tryz.prog W "unicode.properties" .u8 propertiesTab) (hV : RVar 1 letterT W) {r : Int} (h1 : -2147483648 ≤ r) (h2 : r ≤ 2147483647) (H : Heap) : @OrcGood (baseOf W) Tryz.prog 71 [.int .i32 r] H (.bool (isLetterU r)) :=
  zWh rfl rfl ⟨_, _, Tryz.func71, rfl⟩ fun B σ h w k => Any.unicode_IsLetter_all Tryz.laysLetter (by kernel_rfl) r w h1 h2 (zdD k hT) (zKt k hV)
theorem zVx (hV : RVar 2 digitT W) {r : Int} (h1 : -2147483648 ≤ r) (h2 : r ≤ 2147483647) (H : Heap) : @OrcGood (baseOf W) Tryz.prog 72 [.int .i32 r] H (.bool (isDigitU r)) :=
  zWh rfl rfl ⟨_, _, Tryz.func72, rfl⟩ fun B σ h w k => Any.unicode_IsDigit_all Tryz.laysDigit r w h1 h2 (zKt k hV)
end Seal
set_option linter.unusedVariables false
namespace Seal
open Go Go.Lib Go.Proofs Go.RowKit
set_option maxRecDepth 1000000 in
theorem zpA (s : ByteArray) (a c : Int) (hc : c ≠ 65533) (w : World) : Calls Tryz.prog 100 #[.string s, .int .i64 a, .int .i32 c] w fun e w' => e = .returned (.bool false) ∧ w' = w := by
  have h : (c != 65533) = true := by simp [hc]
  go_enter Tryz.func100, Tryz.ntmps100
  go_wp2
  go_ret
  exact ⟨rfl, rfl⟩
set_option maxRecDepth 1000000 in
theorem zWx (s : ByteArray) (a : Nat) (ha : a ≤ s.size) (w : World) (hT : Utf8Tabs 3 4 w) : Calls Tryz.prog 100 #[.string s, .int .i64 a, .int .i32 65533] w fun e w' => e = .returned (.bool (decide ((decodeGo (s.extract a s.size)).2 = 1))) ∧ Below w.heap.size w w' := by
  have cD : Calls Tryz.prog 104 #[.string (s.extract a s.size)] w _ := Any.utf8_DecodeRuneInString Tryz.laysDecode (s.extract a s.size) w hT
  have h1 : (0 : Int) ≤ a := by omega
  have h2 : (a : Int) ≤ s.size := by omega
  go_enter Tryz.func100, Tryz.ntmps100
  go_wp2_with fail
  refine cD.mono fun e w1 ⟨he, hb⟩ => ?_
  subst he
  go_wp2_with fail
  go_ret
  refine ⟨?_, hb⟩
  show Ending.returned (.bool (((decodeGo (s.extract a s.size)).2 : Int) == 1)) = _
  have e : (((decodeGo (s.extract a s.size)).2 : Int) == 1) = decide ((decodeGo (s.extract a s.size)).2 = 1) := by
    rw [Bool.eq_iff_iff]
    simp
    omega
  rw [e]
set_option maxRecDepth 1000000 in
theorem zXx (s : ByteArray) (a : Nat) (ha : a ≤ s.size) (c : Int) (w : World) (hT : Utf8Tabs 3 4 w) : Calls Tryz.prog 100 #[.string s, .int .i64 a, .int .i32 c] w fun e w' => e = .returned (.bool (decide (c = 65533 ∧ (decodeGo (s.extract a s.size)).2 = 1))) ∧ Below w.heap.size w w' := by
  by_cases hc : c = 65533
  · subst hc
    refine (zWx s a ha w hT).mono fun e w' ⟨he, hb⟩ => ⟨?_, hb⟩
    rw [he]; simp
  · refine (zpA s a c hc w).mono fun e w' ⟨he, hw⟩ => ⟨?_, hw ▸ Below.refl _ _⟩
    rw [he]; simp [hc]
def partF (c : Int) (first : Bool) : Bool := isLetterU c || !first && (isDigitU c || c == 45 || c == 95 || c == 46)
set_option maxRecDepth 1000000 in
theorem zeD (c : Int) (first : Bool) (h1 : -2147483648 ≤ c) (h2 : c ≤ 2147483647) (w : World) (hT : TabIs Tryz.prog w "unicode.properties" .u8 propertiesTab) (hL : RVar 1 letterT w) (hD : ∀ w', Below w.heap.size w w' → RVar 2 digitT w') :
    Calls Tryz.prog 101 #[.int .i32 c, .bool first] w fun e w' => e = .returned (.bool (partF c first)) ∧ Below w.heap.size w w' := by
  have cL : Calls Tryz.prog 71 #[.int .i32 c] w _ := Any.unicode_IsLetter_all Tryz.laysLetter (by kernel_rfl) c w h1 h2 hT hL
  go_enter Tryz.func101, Tryz.ntmps101
  go_wp2_with fail
  refine cL.mono fun e w1 ⟨he, hb⟩ => ?_
  subst he
  have cD : Calls Tryz.prog 72 #[.int .i32 c] w1 _ := Any.unicode_IsDigit_all Tryz.laysDigit c w1 h1 h2 (hD w1 hb)
  cases hl : isLetterU c with
  | true =>
    go_wp2_with fail
    go_ret
    exact ⟨by simp [partF, hl], hb⟩
  | false =>
    cases first with
    | true =>
      go_wp2_with fail
      go_ret
      exact ⟨by simp [partF, hl], hb⟩
    | false =>
      go_wp2_with fail
      refine cD.mono fun e w2 ⟨he, hb2⟩ => ?_
      subst he
      have hb3 : Below w.heap.size w w2 := hb.trans (hb2.mono hb.size)
      cases hd : isDigitU c with
      | true =>
        go_wp2_with fail
        go_ret
        exact ⟨by simp [partF, hl, hd], hb3⟩
      | false =>
        by_cases e1 : c = 45
        · subst e1
          go_wp2_with fail
          go_ret
          exact ⟨by simp [partF], hb3⟩
        by_cases e2 : c = 95
        · subst e2
          go_wp2_with fail
          go_ret
          exact ⟨by simp [partF], hb3⟩
        have b1 : (c == 45) = false := by simpa using e1
        have b2 : (c == 95) = false := by simpa using e2
        go_wp2_with fail
        go_ret
        exact ⟨by simp [partF, hl, hd, b1, b2], hb3⟩
end Seal
set_option linter.unusedVariables false
namespace Seal
open Go Go.Lib Go.Proofs Go.RowKit
structure Tabs (w : World) : Prop where
  u : Utf8Tabs 3 4 w
  p : TabIs Tryz.prog w "unicode.properties" .u8 propertiesTab
  l : RVar 1 letterT w
  d : RVar 2 digitT w
theorem Tabs.keep {w w' : World} (h : Tabs w) (hc : ∀ a v, w.cell? a = some v → w'.cell? a = some v) (hv : ∀ n v, w.var? Tryz.prog n = some v → w'.var? Tryz.prog n = some v) : Tabs w' := by
  have rv : ∀ {g : Nat} {T : RTab}, RVar g T w → RVar g T w' := by
    rintro g T ⟨Tb, oT, h1, a16, a32, R16, o16, c16, R32, o32, c32, h2, h3, h4, h5, h6, h7, h8, h9⟩
    refine ⟨Tb, oT, hc _ _ h1, a16, a32, R16, o16, c16, R32, o32, c32, hc _ _ h2, hc _ _ h3, hc _ _ h4, h5, h6, fun i hi => ?_, fun i hi => ?_, h9⟩
    · obtain ⟨x, y, z⟩ := h7 i hi
      exact ⟨hc _ _ x, hc _ _ y, hc _ _ z⟩
    · obtain ⟨x, y, z⟩ := h8 i hi
      exact ⟨hc _ _ x, hc _ _ y, hc _ _ z⟩
  exact ⟨⟨fun c h1 => hc _ _ (h.u.1 c h1), fun i hi => ⟨hc _ _ (h.u.2 i hi).1, hc _ _ (h.u.2 i hi).2⟩⟩, hv _ _ h.p, rv h.l, rv h.d⟩
theorem Tabs.below {w w' : World} (h : Tabs w) (hb : Below w.heap.size w w') : Tabs w' := by
  refine h.keep (fun a v ha => ?_) (fun n v hn => ?_)
  · have hlt : a.block < w.heap.size := by
      rcases Nat.lt_or_ge a.block w.heap.size with h | h
      · exact h
      · unfold World.cell? at ha
        rw [Array.getElem?_eq_none h] at ha; cases ha
    rw [hb.cell hlt]; exact ha
  · unfold World.var? at *
    cases hg : Tryz.prog.globalNamed n with
    | none => rw [hg] at hn; cases hn
    | some g =>
      rw [hg] at hn
      have hlt : g < w.heap.size := by
        rcases Nat.lt_or_ge g w.heap.size with h | h
        · exact h
        · have hn : (match w.heap[g]? with | some (.cells cs _ _) => some cs | _ => none) = some v := hn
          rw [Array.getElem?_eq_none h] at hn; cases hn
      show (match w'.heap[g]? with | some (.cells cs _ _) => some cs | _ => none) = some v
      rw [hb.block g hlt]; exact hn
def finF (n : Int) : Int := if n < 1 ∨ n > 24 then 41 else 0
def brF (s : ByteArray) (pos : Nat) (c : Int) : Bool := decide (c = 65533 ∧ (decodeGo (s.extract pos s.size)).2 = 1)
def badF (s : ByteArray) (pos : Nat) (n : Int) : Bool := brF s pos (Utf8.decode s pos).1 || !partF (Utf8.decode s pos).1 (n == 0)
def nmF (s : ByteArray) : Nat → Nat → Int → Int
  | 0, pos, n => finF n
  | b + 1, pos, n => if pos < s.size then (if badF s pos n then 41 else nmF s b (pos + (Utf8.decode s pos).2) (n + 1)) else finF n
theorem zhH (s : ByteArray) (b pos : Nat) (n : Int) (h : ¬ pos < s.size) : nmF s b pos n = finF n := by
  cases b with
  | zero => rfl
  | succ b => simp [nmF, h]
theorem width_pos (s : ByteArray) (pos : Nat) (h : pos < s.size) : 1 ≤ (Utf8.decode s pos).2 := by
  by_cases ha : (s[pos]'h).toNat < 128
  · rw [decode_ascii s pos h ha]
    exact Nat.le_refl _
  · exact (decode_high s pos h (by omega)).2
theorem zLt {w wr : World} {s : ByteArray} {p : Nat} (h : Below w.heap.size w wr) : Below w.heap.size w (wr.iterAt w.heap.size s p) := by
  refine h.trans ⟨rfl, rfl, rfl, ?_, fun k hk => ?_⟩
  · simp [World.iterAt]
  · simp [World.iterAt, Nat.ne_of_gt hk]
theorem zqA {k : Nat} {wr : World} {s : ByteArray} {p q : Nat} (h : wr.heap[k]? = some (.stringIter s q)) : (wr.iterAt k s p).heap[k]? = some (.stringIter s p) := by
  have := (Array.getElem?_eq_some_iff.1 h).1
  simp [World.iterAt, this]
set_option maxRecDepth 1000000 in
set_option maxHeartbeats 4000000 in
theorem zfD (s : ByteArray) (hs : s.size < 4611686018427387904) (w : World) (hT : Tabs w) : Calls Tryz.prog 92 #[.string s] w fun e w' => e = .returned (.int .i64 (nmF s s.size 0 0)) ∧ Below w.heap.size w w' := by
  go_enter Tryz.func92, Tryz.ntmps92
  go_wp2_with fail
  go_loopw [3] (fun n w' => ∃ (pos b : Nat) (k : Int), w'.heap[w.heap.size]? = some (.stringIter s pos) ∧ Below w.heap.size w w' ∧ n = .int .i64 k ∧ nmF s b pos k = nmF s s.size 0 0 ∧ s.size ≤ pos + b ∧ 0 ≤ k ∧ k ≤ pos) (fun _ w' => s.size - w'.iterPos w.heap.size)
  case atStart => exact ⟨0, s.size, 0, World.iter_heap w s 0, Below.alloc (Below.refl _ _) (Nat.le_refl _) _, rfl, rfl, by omega, by omega, by omega⟩
  case round =>
    obtain ⟨pos, b, k, hat, hbl, rfl, hc, hb, hk0, hk1⟩ := hrel
    by_cases hp : pos < s.size
    · have hnx : ∀ ty, (Instr.next (.pointer (some ⟨w.heap.size, 0, none⟩)) true ty).run Tryz.prog wr = _ := fun ty => run_next_any_at wr w.heap.size s pos ty hat hp
      have hwd := width_pos s pos hp
      have hbl2 : Below w.heap.size w (wr.iterAt w.heap.size s (pos + (Utf8.decode s pos).2)) := zLt hbl
      have hat2 : (wr.iterAt w.heap.size s (pos + (Utf8.decode s pos).2)).heap[w.heap.size]? = some (.stringIter s (pos + (Utf8.decode s pos).2)) := zqA hat
      have hle := decode_le s pos
      generalize wr.iterAt w.heap.size s (pos + (Utf8.decode s pos).2) = w1 at *
      have cB : Calls Tryz.prog 100 #[.string s, .int .i64 pos, .int .i32 (Utf8.decode s pos).1] w1 fun e w' => e = .returned (.bool (brF s pos (Utf8.decode s pos).1)) ∧ Below w1.heap.size w1 w' := zXx s pos (Nat.le_of_lt hp) (Utf8.decode s pos).1 w1 (hT.below hbl2).u
      have hlt : w.heap.size < w1.heap.size := (Array.getElem?_eq_some_iff.1 hat2).1
      obtain ⟨br, hbr⟩ : ∃ br, brF s pos (Utf8.decode s pos).1 = br := ⟨_, rfl⟩
      rw [hbr] at cB
      go_wp2_with fail
      refine cB.mono fun e w2 ⟨he, hb2⟩ => ?_
      subst he
      have hbl3 : Below w.heap.size w w2 := hbl2.trans (hb2.mono hbl2.size)
      have hat3 : w2.heap[w.heap.size]? = some (.stringIter s (pos + (Utf8.decode s pos).2)) := by rw [hb2.block _ hlt]; exact hat2
      clear hat2 hbl2 hb2 hbl
      cases br with
      | true =>
        go_wp2_with fail
        go_ret
        refine ⟨?_, hbl3⟩
        rw [← hc]
        cases b with
        | zero => omega
        | succ b => simp [nmF, hp, badF, hbr]
      | false =>
        have hT3 := hT.below hbl3
        have cP := zeD (Utf8.decode s pos).1 (k == 0) (by omega) (by omega) w2 hT3.p hT3.l (fun w' h' => (hT3.below h').d)
        obtain ⟨pr, hpr⟩ : ∃ pr, partF (Utf8.decode s pos).1 (k == 0) = pr := ⟨_, rfl⟩
        rw [hpr] at cP
        go_wp2_with fail
        refine cP.mono fun e w3 ⟨he, hb3⟩ => ?_
        subst he
        have hlt2 : w.heap.size < w2.heap.size := (Array.getElem?_eq_some_iff.1 hat3).1
        have hbl4 : Below w.heap.size w w3 := hbl3.trans (hb3.mono hbl3.size)
        have hat4 : w3.heap[w.heap.size]? = some (.stringIter s (pos + (Utf8.decode s pos).2)) := by rw [hb3.block _ hlt2]; exact hat3
        clear hat3 hbl3 hb3
        cases pr with
        | false =>
          go_wp2_with fail
          go_ret
          refine ⟨?_, hbl4⟩
          rw [← hc]
          cases b with
          | zero => omega
          | succ b => simp [nmF, hp, badF, hpr]
        | true =>
          have hk2 : k + 1 < 9223372036854775808 := by omega
          go_wp2_with fail
          go_roundw
          case rel =>
            cases b with
            | zero => omega
            | succ b =>
              refine ⟨pos + (Utf8.decode s pos).2, b, k + 1, hat4, hbl4, ?_, ?_, by omega, by omega, by omega⟩
              · rfl
              · rw [← hc]; simp [nmF, hp, badF, hbr, hpr]
          case measure =>
            simp only [World.iterPos, hat, hat4]
            omega
    · have hnx : ∀ ty, (Instr.next (.pointer (some ⟨w.heap.size, 0, none⟩)) true ty).run Tryz.prog wr = _ := fun ty => run_next_end_at wr w.heap.size s pos ty hat hp
      rw [zhH s b pos k hp] at hc
      by_cases h1 : k < 1
      · go_wp2_with fail
        go_ret
        exact ⟨by rw [← hc]; simp [finF, h1], hbl⟩
      by_cases h2 : k > 24
      · go_wp2_with fail
        go_ret
        exact ⟨by rw [← hc]; simp [finF, h2], hbl⟩
      go_wp2_with fail
      go_ret
      exact ⟨by rw [← hc]; simp [finF, h1, h2], hbl⟩
end Seal
set_option linter.unusedVariables false
namespace Seal
open Go Go.Ab Go.Lib Go.Proofs
variable {W : World}
theorem zrA {B : Nat} {σ : Ab.Loc} {h : Nat → Option Ab.Obj} {H : Ab.Heap} {w : World} (k : @Known (baseOf W) Tryz.prog B σ h H w) (hT : Tabs W) : Tabs w := hT.keep (fun a v ha => zYc k ha) (fun n v hn => zUw k hn)
theorem zsA (hT : Tabs W) {s : ByteArray} (hs : s.size < 4611686018427387904) (H : Ab.Heap) : @OrcGood (baseOf W) Tryz.prog 92 [.string s] H (.int .i64 (nmF s s.size 0 0)) :=
  zWh rfl rfl ⟨_, _, Tryz.func92, rfl⟩ fun B σ h w k => zfD s hs w (zrA k hT)
end Seal
set_option linter.unusedVariables false
set_option maxRecDepth 100000
namespace Seal
open Go Go.Lib Go.Shelf Go.Proofs Go.Proofs.YtlkkkfmjfpeooaaGreatDoor
variable {W : World}
theorem xL : RExtra Tryz.prog Tryz.laysLetter_ren := ⟨by kernel_rfl, by kernel_rfl, by kernel_rfl, by kernel_rfl, by kernel_rfl, by kernel_rfl, by kernel_rfl, by kernel_rfl⟩
theorem xD : RExtra Tryz.prog Tryz.laysDigit_ren := ⟨by kernel_rfl, by kernel_rfl, by kernel_rfl, by kernel_rfl, by kernel_rfl, by kernel_rfl, by kernel_rfl, by kernel_rfl⟩
theorem xU : U8Extra Tryz.prog Tryz.laysDecode_ren := by constructor <;> kernel_rfl
theorem ztA : (Rows.laid_unicode_utf8_acceptRanges : DataW Unit) = acceptData := by kernel_rfl
theorem zsF : (Rows.laid_unicode_properties : DataW Unit) = tabData .u8 propertiesTab := by kernel_rfl
theorem zMt {P : Program} {name : String} {k : IntKind} {zs : List Int} {g : Nat} {t e : TypeId} {n : Nat}
    (hg : P.globalNamed name = some g) (hty : (P.globals[g]?).map (·.type) = some t) (ht : P.underlying t = some (.array n e)) (he : P.underlying e = some (.int k)) (hce : P.cellsOf e = 1) (hct : P.cellsOf t = n)
    (h : VarReads P W name (tabData k zs)) : TabIs P W name k zs := by
  obtain ⟨g', t', cs, fuel, p, hg', ht', hvar, hd⟩ := h
  obtain rfl := Option.some.inj (hg.symm.trans hg')
  obtain rfl := Option.some.inj (hty.symm.trans ht')
  unfold TabIs
  rw [hvar, ← cells_of_tab ht he hce hct hd]
theorem tabs_of_reads (h1 : VarReads Tryz.prog W "unicode/utf8.acceptRanges" Rows.laid_unicode_utf8_acceptRanges) (h2 : VarReads Tryz.prog W "unicode.properties" Rows.laid_unicode_properties)
    (h3 : VarReads Tryz.prog W "unicode.Digit" Rows.laid_unicode_Digit) (h4 : VarReads Tryz.prog W "unicode.Letter" Rows.laid_unicode_Letter) (h5 : VarReads Tryz.prog W "unicode/utf8.first" Rows.laid_unicode_utf8_first) : Tabs W := by
  refine ⟨?_, ?_, ?_, ?_⟩
  · rw [ztA] at h1
    have h5 : VarReads Tryz.prog W "unicode/utf8.first" Pinned.utf8First := h5
    rw [Pinned.utf8First_eq] at h5
    exact utf8Tabs_of_readsT (ρ := Tryz.laysDecode_ren) { Tryz.laysDecode with } xU h5 h1
  · rw [zsF] at h2
    exact zMt (g := 0) (t := 162) (e := 5) (n := 256) (by kernel_rfl) (by kernel_rfl) (by kernel_rfl) (by kernel_rfl) (by kernel_rfl) (by kernel_rfl) h2
  · have h4 : VarReads Tryz.prog W "unicode.Letter" Pinned.letter := h4
    rw [Pinned.letter_eq] at h4
    exact rvar_of_reads (ρ := Tryz.laysLetter_ren) { Tryz.laysLetter with } xL (by kernel_rfl) (by kernel_rfl) h4
  · have h3 : VarReads Tryz.prog W "unicode.Digit" Pinned.digit := h3
    rw [Pinned.digit_eq] at h3
    exact rvar_of_reads (ρ := Tryz.laysDigit_ren) { Tryz.laysDigit with } xD (by kernel_rfl) (by kernel_rfl) h3
end Seal
set_option linter.unusedVariables false
set_option maxRecDepth 100000
namespace Seal
open Go Go.Lib Go.Shelf Go.Proofs
variable {W : World}
def zgD (args : List Value) : Option Value := match args with
  | [.string s] => cond (Nat.blt s.size 4611686018427387904) (some (.int .i64 (nmF s s.size 0 0))) none
  | _ => none
def zYx (F : Int → Bool) (args : List Value) : Option Value := match args with
  | [.int .i32 r] => cond (decide (-2147483648 ≤ r) && decide (r ≤ 2147483647)) (some (.bool (F r))) none
  | _ => none
noncomputable def heedS : Code := Ab.surr Tryz.prog 45 (Ab.heedT 58 49 56 48)
noncomputable def asS : Code := Ab.surr Tryz.prog 74 Ab.tailT
@[reducible] noncomputable def orcS : Ab.Orc := ⟨fun f args _ => cond (Nat.beq f 92) (zgD args) (cond (Nat.beq f 71) (zYx isLetterU args) (cond (Nat.beq f 72) (zYx isDigitU args) none)), fun f => cond (Nat.beq f 45) (some heedS) (cond (Nat.beq f 74) (some asS) none)⟩
theorem zZx {args : List Value} {v : Value} (h : zgD args = some v) : ∃ s, args = [.string s] ∧ s.size < 4611686018427387904 ∧ v = .int .i64 (nmF s s.size 0 0) := by
  unfold zgD at h
  split at h
  · rename_i s
    cases hb : Nat.blt s.size 4611686018427387904 with
    | false => rw [hb] at h; cases h
    | true =>
      rw [hb] at h
      cases h
      exact ⟨s, rfl, by rw [Ab.blt_eq] at hb; exact of_decide_eq_true hb, rfl⟩
  · cases h
theorem zWq {F : Int → Bool} {args : List Value} {v : Value} (h : zYx F args = some v) : ∃ r, args = [.int .i32 r] ∧ -2147483648 ≤ r ∧ r ≤ 2147483647 ∧ v = .bool (F r) := by
  unfold zYx at h
  split at h
  · rename_i r
    cases hb : decide (-2147483648 ≤ r) && decide (r ≤ 2147483647) with
    | false => rw [hb] at h; cases h
    | true =>
      rw [hb] at h
      cases h
      rw [Bool.and_eq_true] at hb
      exact ⟨r, rfl, of_decide_eq_true hb.1, of_decide_eq_true hb.2, rfl⟩
  · cases h
theorem ztF (hT : Tabs W) (f : FuncId) (args : List Value) (H : Ab.Heap) (v : Value) (h : orcS.tab f args H = some v) : @Ab.OrcGood (Ab.baseOf W) Tryz.prog f args H v := by
  have h : cond (Nat.beq f 92) (zgD args) (cond (Nat.beq f 71) (zYx isLetterU args) (cond (Nat.beq f 72) (zYx isDigitU args) none)) = some v := h
  cases h1 : Nat.beq f 92 with
  | true =>
    rw [h1] at h
    obtain rfl := Nat.eq_of_beq_eq_true h1
    obtain ⟨s, rfl, hs, rfl⟩ := zZx h
    exact zsA hT hs H
  | false =>
  rw [h1] at h
  cases h2 : Nat.beq f 71 with
  | true =>
    rw [h2] at h
    obtain rfl := Nat.eq_of_beq_eq_true h2
    obtain ⟨r, rfl, a, b, rfl⟩ := zWq h
    exact zAv hT.p hT.l a b H
  | false =>
  rw [h2] at h
  cases h3 : Nat.beq f 72 with
  | true =>
    rw [h3] at h
    obtain rfl := Nat.eq_of_beq_eq_true h3
    obtain ⟨r, rfl, a, b, rfl⟩ := zWq h
    exact zVx hT.d a b H
  | false => rw [h3] at h; cases h
theorem good : Ab.goodB Tryz.prog = true := by kernel_rfl
end Seal
set_option linter.unusedVariables false
set_option maxRecDepth 100000
namespace Seal
open Go Go.Ab
variable {W : World}
noncomputable abbrev P0 : Program := Go.Proofs.Tryz.prog
noncomputable abbrev hB : Code := surr P0 45 id
noncomputable abbrev hG : Code := surr P0 67 id
noncomputable abbrev hX : Code := cr (cr hB)
noncomputable abbrev hA1 : Code := ct (cr (cl hX))
noncomputable abbrev hA2 : Code := cr (cr hX)
noncomputable abbrev hBd : Code := cl (cr hX)
noncomputable abbrev hR : Code := ct (cr (cr (cl hA2)))
noncomputable abbrev hmk : Oper := opAt (cl (cr hB)) 0
noncomputable abbrev hD : Oper := opAt (cl (cr hB)) 1
theorem zhD [Base] : Clo P0 67 (znF P0 67) 40 107 9 36 (.int .i64 192) (zSw (ct (cr hG))) := by
  have hne := zrF (P := P0) (ne := opAt (cl hG) 1) (t := (match (opAt (cl hG) 1).op with | .binOp _ t _ _ _ => t | _ => 0)) (yt := (match (opAt (cl hG) 1).op with | .binOp _ _ _ _ t => t | _ => 0)) (ms := #[]) (by kernel_rfl) (by kernel_rfl)
  refine ⟨zcD (by kernel_rfl), ⟨cid (cl hG), cid (ct (cr hG)), opAt (cl hG) 0, opAt (cl hG) 1, by kernel_rfl, zoF (tys := (zTw (opAt (cl hG) 0)).argTypes) (by kernel_rfl), by kernel_rfl, by kernel_rfl, by kernel_rfl, by kernel_rfl, hne.1, hne.2⟩, by kernel_rfl, ?_, ⟨⟨opAt (ct (cr hG)) 0, opAt (ct (cr hG)) 1, opAt (ct (cr hG)) 2, opAt (ct (cr hG)) 3, by kernel_rfl, ⟨by kernel_rfl, by kernel_rfl, by kernel_rfl⟩, ⟨by kernel_rfl, by kernel_rfl, by kernel_rfl⟩, ⟨by kernel_rfl, by kernel_rfl, by kernel_rfl⟩, ⟨by kernel_rfl, by kernel_rfl, by kernel_rfl⟩⟩, by kernel_rfl⟩⟩
  intro tmps w
  have hr : (znF P0 67).results = #[] := by kernel_rfl
  rw [zHm, Array.mapM_eq_mapM_toList, hr]
  simp
theorem zuA : Hd P0 40 107 9 36 (.int .i64 192) 2 44 45 46 (zSw (cl hR)).toList :=
  ⟨⟨opAt (cl hR) 0, opAt (cl hR) 1, opAt (cl hR) 2, opAt (cl hR) 3, by kernel_rfl, ⟨by kernel_rfl, by kernel_rfl, by kernel_rfl⟩, ⟨by kernel_rfl, by kernel_rfl, by kernel_rfl⟩, ⟨by kernel_rfl, by kernel_rfl, by kernel_rfl⟩, ⟨by kernel_rfl, by kernel_rfl, by kernel_rfl⟩⟩, by kernel_rfl⟩
theorem zqE [Base] {me : zGf} {R : Code} {i : Nat} {ops : Array Oper} (h : R = .seq (.region i ops false) .ret) (T : List Value) (H : Heap) (o : Out) (hr : (zAa P0 true R).f me T H = some o) : o.ex = .ret ∧ ∃ o1, zqi P0 me ops.toList ops.toList T H = some o1 ∧ o1.H = o.H := by
  subst h
  have hr : zdf (zqi P0 me ops.toList ops.toList T H) (fun T H => some ⟨.ret, T, H⟩) = some o := hr
  obtain ⟨o1, h1, h2⟩ := zBb hr
  rcases h2 with ⟨_, h2⟩ | ⟨hx, rfl⟩
  · cases h2; exact ⟨rfl, o1, h1, rfl⟩
  · exfalso
    have : ∀ (l : List Oper) (T : List Value) (H : Heap), zqi P0 me ops.toList l T H = some o → o.ex = .normal := by
      intro l
      induction l with
      | nil => intro T H h; cases h; rfl
      | cons x l ih =>
        intro T H h
        have h : zVe P0 me x ((zLa ops.toList x.guard).f T) T H (zqi P0 me ops.toList l) = some o := h
        unfold zVe at h
        split at h
        · split at h
          · exact ih _ _ h
          · cases h
        · exact ih _ _ h
    exact hx (this _ _ _ h1)
theorem zuF [Base] {me : zGf} {all l : List Oper} {tt t7 f ts : Nat} {kv : Value} {s b c d : Nat} (h : Hd P0 tt t7 f ts kv s b c d l) (T : List Value) (H : Heap) (o : Out) (hr : zqi P0 me all l T H = some o) : ∃ v, (zbh P0 tt).f (nth T s) H = some (v, H) := by
  obtain ⟨⟨o1, o2, o3, o4, rfl, ⟨a1, a2, a3⟩, _⟩, _⟩ := h
  have hr : zVe P0 me o1 ((zLa all o1.guard).f T) T H (zqi P0 me all [o2, o3, o4]) = some o := hr
  rw [a3] at hr
  have hr : zVe P0 me o1 true T H (zqi P0 me all [o2, o3, o4]) = some o := hr
  unfold zVe at hr
  simp only at hr
  rw [zPl a1] at hr
  split at hr
  · rename_i v H1 h1
    obtain rfl := zzv h1
    exact ⟨v, h1⟩
  · cases hr
noncomputable abbrev hK : Nat := 48
theorem e15 : P0.underlying P0.rt.typeAssertionError = some (.pointer (match P0.underlying P0.rt.typeAssertionError with | some (.pointer e) => e | _ => 0)) := by kernel_rfl
noncomputable abbrev tdG : TypeDesc := (P0.underlying 49).getD .bool
noncomputable abbrev tdE : TypeDesc := (P0.underlying 56).getD .bool
theorem uG : P0.underlying 49 = some tdG := by kernel_rfl
theorem uE : P0.underlying 56 = some tdE := by kernel_rfl
def isIface : TypeDesc → Bool | .interface _ => true | _ => false
theorem nif {td : TypeDesc} (h : isIface td = false) : ∀ ms, td ≠ .interface ms := by rintro ms rfl; cases h
theorem ziD [Base] [Orc] (hP : Good P0) {me : zGf} (hS : SelfOk P0 me) : SimE P0 me 2 hK hR (cr (cr heedS)) hX := by
  have e0 : hX = .seq (.seq (cl (cl hX)) (.cond (cc? (cr (cl hX))) hA1 .skip)) (.seq hBd hA2) := by kernel_rfl
  have e1 : cr (cr heedS) = .seq (.seq (cl (cl hX)) (.cond (cc? (cr (cl hX))) (zop hmk 1 58 49 hK hA1 hR) .skip)) (.seq hBd (zop hmk 1 58 56 hK hA2 hR)) := by kernel_rfl
  have eR : hR = .seq (.region (cid (cl hR)) (zSw (cl hR)) false) .ret := by kernel_rfl
  have hRr : ∀ T H o, (zAa P0 true hR).f me T H = some o → o.ex = .ret := fun T H o h => (zqE eR T H o h).1
  have hRl : ∀ T H o, (zAa P0 true hR).f me T H = some o → ∃ v, (zbh P0 40).f (nth T 2) H = some (v, H) := by
    intro T H o h
    obtain ⟨_, o1, h1, _⟩ := zqE eR T H o h
    exact zuF zuA T H o1 h1
  rw [e1, e0]
  refine SimE.seq hS hRr (SimX.seq hS hRr (SimX.plain hP hS (by kernel_rfl) (by kernel_rfl) (by kernel_rfl) (by kernel_rfl)) (SimX.cond ?_ (SimX.plain hP hS rfl rfl rfl rfl))) (SimE.seq hS hRr (SimX.plain hP hS (by kernel_rfl) (by kernel_rfl) (by kernel_rfl) (by kernel_rfl)) ?_)
  · refine SimX.guard (tt := 40) hP hS hRr hRl uG (nif (by kernel_rfl)) (by kernel_rfl) (by kernel_rfl) (by kernel_rfl) (by kernel_rfl) (by decide) ?_
    have e3 : hA1 = .seq (.region (cid (cl hA1)) (zSw (cl hA1)) true) .ret := by kernel_rfl
    rw [e3]
    refine Pan.seq (Pan.any (t := 58) (y := 14) (p := 3) (m := 2) (harm := [0, 1, 2]) (o := opAt (cl hA1) 3) hP hS e15 uG (nif (by kernel_rfl)) (by kernel_rfl) (by kernel_rfl) (by kernel_rfl) (by decide) ?_ (by kernel_rfl))
    intro i hi
    rcases List.mem_cons.1 hi with rfl | hi
    · exact ⟨opAt (cl hA1) 0, 12, by kernel_rfl, by kernel_rfl, by kernel_rfl, by decide, by decide, .inr ⟨by kernel_rfl, by decide, by decide⟩⟩
    rcases List.mem_cons.1 hi with rfl | hi
    · exact ⟨opAt (cl hA1) 1, 13, by kernel_rfl, by kernel_rfl, by kernel_rfl, by decide, by decide, .inr ⟨by kernel_rfl, by decide, by decide⟩⟩
    rcases List.mem_cons.1 hi with rfl | hi
    · exact ⟨opAt (cl hA1) 2, 14, by kernel_rfl, by kernel_rfl, by kernel_rfl, by decide, by decide, .inl ⟨by kernel_rfl, rfl, rfl⟩⟩
    cases hi
  · refine SimE.guard (tt := 40) hP hS hRr hRl uE (nif (by kernel_rfl)) (by kernel_rfl) (by decide) ?_
    have e3 : hA2 = .seq (.seq (.region (cid (cl (cl hA2))) (zSw (cl (cl hA2))) false) (cr (cl hA2))) (cr hA2) := by kernel_rfl
    rw [e3]
    exact Pan.seq (Pan.seq (Pan.ord (t := 58) (y := 31) (m := opAt (cl (cl hA2)) 0) (o := opAt (cl (cl hA2)) 1) hP hS e15 uE (nif (by kernel_rfl)) (by kernel_rfl) (by kernel_rfl) (by kernel_rfl) (by kernel_rfl) (by kernel_rfl) (by kernel_rfl) (by kernel_rfl) (by decide)))
theorem zvA [Base] [Orc] (hP : Good P0) : zfp P0 45 heedS := by
  have e : heedS = .seq (.region (cid (cl hB)) (zSw (cl hB)) false) (.seq (.region (cid (cl (cr hB))) #[hmk] false) (cr (cr heedS))) := by kernel_rfl
  have eR : hR = .seq (.region (cid (cl hR)) (zSw (cl hR)) false) .ret := by kernel_rfl
  rw [e]
  refine zUx (g := 67) (t := 6) (s := 2) (k := hK) (b := 44) (c := 45) (d := 46) (fn := znF P0 45) (i1 := cid (cl (cr hB))) (i9 := cid (cl hR)) (ops9 := zSw (cl hR)) (mk := hmk) (D := hD) (cc := zTw hD) (Bc := hX) hP (zcD (by kernel_rfl)) (by kernel_rfl) (by kernel_rfl) (by kernel_rfl) (by kernel_rfl) (by kernel_rfl) (by kernel_rfl) (by kernel_rfl) (by kernel_rfl) (by kernel_rfl) (Nat.le_of_ble_eq_true (by kernel_rfl)) (Nat.le_of_ble_eq_true (by kernel_rfl)) (Nat.le_of_ble_eq_true (by kernel_rfl)) (by decide) (by decide) (by kernel_rfl) (by kernel_rfl) zhD zuA (by decide) (by decide) (by decide) (by kernel_rfl) ?_
  intro me hS
  rw [← eR]
  exact ziD hP hS
noncomputable abbrev aB : Code := surr P0 74 id
noncomputable abbrev a4 : Code := cl (cr (cr (cr aB)))
noncomputable abbrev a5 : Code := cl (cr (cr (cr (cr aB))))
noncomputable abbrev aD : Oper := opAt a4 5
noncomputable def ziH (ops : Array Oper) (l : List Operand) : Bool := l.all fun x => match x with | .tmp i => (zwl P0 ops.toList).all fun o => o.1.dst != some i | _ => false
theorem zBv {ops : Array Oper} {l : List Operand} (h : ziH ops l = true) : ∀ x ∈ l, ∃ i, x = .tmp i ∧ ∀ o ∈ zwl P0 ops.toList, o.1.dst ≠ some i := by
  intro x hx
  have h1 := List.all_eq_true.1 h x hx
  cases x with
  | tmp i =>
    refine ⟨i, rfl, fun o ho => ?_⟩
    have h2 := List.all_eq_true.1 h1 o ho
    simpa using h2
  | _ => cases h1
theorem zrp (hP : Good P0) [Base] : @zfp _ orcS P0 74 asS := by
  letI := orcS
  have e : asS = .seq (cl aB) (.seq (cl (cr aB)) (.seq (cl (cr (cr aB))) (.seq (.region (cid a4) ((zSw a4).toList.take 5).toArray false) (.seq (.region (cid a5) (zSw a5) true) (.seq (.region (cid a4) #[{ aD with op := .call (zTw aD), dst := none }] false) .ret))))) := by kernel_rfl
  rw [e]
  exact zaD (i4 := cid a4) (ops4 := zSw a4) (g := 87) (fn := znF P0 74) (gn := znF P0 87) (gc := surr P0 87 id) (D := aD) (cc := zTw aD) hP (zcD (by kernel_rfl)) (by kernel_rfl) (by kernel_rfl) (by kernel_rfl) (by kernel_rfl) (by kernel_rfl) (fun o ho => by
    have : ∀ o ∈ (zSw a4).toList.take 5, o.guard = none := by
      have h : ((zSw a4).toList.take 5).all (fun o => o.guard.isNone) = true := by kernel_rfl
      intro o ho
      have := List.all_eq_true.1 h o ho
      simpa using this
    exact this o ho) (by kernel_rfl) (by kernel_rfl) (by kernel_rfl) (by kernel_rfl) rfl (by kernel_rfl) rfl (zBv (by kernel_rfl)) (zcD (by kernel_rfl)) (by kernel_rfl) (by kernel_rfl) (fun args H => rfl) rfl
theorem orcS_ok (hT : Tabs W) : @OrcOk (baseOf W) orcS P0 := by
  letI := baseOf W
  letI := orcS
  have hP := zBz good
  refine ⟨ztF hT, fun f c h => ?_⟩
  have h : cond (Nat.beq f 45) (some heedS) (cond (Nat.beq f 74) (some asS) none) = some c := h
  cases h1 : Nat.beq f 45 with
  | true =>
    rw [h1] at h
    obtain rfl := Nat.eq_of_beq_eq_true h1
    cases h
    exact zvA hP
  | false =>
  rw [h1] at h
  cases h2 : Nat.beq f 74 with
  | true =>
    rw [h2] at h
    obtain rfl := Nat.eq_of_beq_eq_true h2
    cases h
    exact zrp hP
  | false => rw [h2] at h; cases h
end Seal
