import Derived.Test.YtccblhllmplmaaaAbEqv
namespace Go.Ab
open Go
set_option linter.unusedVariables false
set_option linter.unusedSectionVars false
/-! integers without a sign, as natural numbers -/
def wdU : IntKind → Nat
  | .u8 => 8
  | .u16 => 16
  | .u32 => 32
  | .u64 => 64
  | _ => 0
def isU : IntKind → Bool
  | .u8 => true
  | .u16 => true
  | .u32 => true
  | .u64 => true
  | _ => false
def szU (k : IntKind) : Nat := 2 ^ wdU k
abbrev uint (k : IntKind) (a : Nat) : Value := .int k (a : Int)
section
variable [Orc] {P : Program} {k k' : IntKind} {t : TypeId} {c : Bool} {a b n : Nat} {H : Heap}
theorem wrap_u (hk : isU k = true) : wrapA k (a : Int) = ((a % szU k : Nat) : Int) := by cases k <;> first | (cases hk; done) | rfl
theorem bits_u (hk : isU k = true) : bitsA k (a : Int) = a % szU k := by cases k <;> first | (cases hk; done) | rfl
theorem bin_andU (hk : isU k = true) (ha : a < szU k) (hb : b < szU k) : (binC P .and t c).f (uint k a) (uint k b) = some (uint k (a &&& b)) := by
  rw [binC_int _ _ rfl]
  show some (Value.int k (wrapA k ((Nat.land (bitsA k a) (bitsA k b) : Nat) : Int))) = _
  rw [bits_u hk, bits_u hk, Nat.mod_eq_of_lt ha, Nat.mod_eq_of_lt hb, wrap_u hk, Nat.mod_eq_of_lt (show Nat.land a b < szU k from Nat.and_lt_two_pow a hb)]; rfl
theorem bin_orU (hk : isU k = true) (ha : a < szU k) (hb : b < szU k) : (binC P .or t c).f (uint k a) (uint k b) = some (uint k (a ||| b)) := by
  rw [binC_int _ _ rfl]
  show some (Value.int k (wrapA k ((Nat.lor (bitsA k a) (bitsA k b) : Nat) : Int))) = _
  rw [bits_u hk, bits_u hk, Nat.mod_eq_of_lt ha, Nat.mod_eq_of_lt hb, wrap_u hk, Nat.mod_eq_of_lt (show Nat.lor a b < szU k from Nat.or_lt_two_pow ha hb)]; rfl
theorem bin_xorU (hk : isU k = true) (ha : a < szU k) (hb : b < szU k) : (binC P .xor t c).f (uint k a) (uint k b) = some (uint k (a ^^^ b)) := by
  rw [binC_int _ _ rfl]
  show some (Value.int k (wrapA k ((Nat.xor (bitsA k a) (bitsA k b) : Nat) : Int))) = _
  rw [bits_u hk, bits_u hk, Nat.mod_eq_of_lt ha, Nat.mod_eq_of_lt hb, wrap_u hk, Nat.mod_eq_of_lt (show Nat.xor a b < szU k from Nat.xor_lt_two_pow ha hb)]; rfl
theorem bin_addU (hk : isU k = true) : (binC P .add t c).f (uint k a) (uint k b) = some (uint k ((a + b) % szU k)) := by
  rw [bin_add, show (a : Int) + (b : Int) = ((a + b : Nat) : Int) by simp, wrap_u hk]
theorem bin_mulU (hk : isU k = true) : (binC P .mul t c).f (uint k a) (uint k b) = some (uint k ((a * b) % szU k)) := by
  rw [bin_mul, show (a : Int) * (b : Int) = ((a * b : Nat) : Int) by simp, wrap_u hk]
theorem bin_subU (hk : isU k = true) (h : b ≤ a) (ha : a < szU k) : (binC P .sub t c).f (uint k a) (uint k b) = some (uint k (a - b)) := by
  rw [bin_sub, show (a : Int) - (b : Int) = ((a - b : Nat) : Int) by omega, wrap_u hk, Nat.mod_eq_of_lt (by omega)]
theorem bin_remU (hb : 0 < b) : (binC P .rem t c).f (uint k a) (uint k b) = some (uint k (a % b)) := by
  rw [bin_rem (by omega)]
  rw [show (a : Int).tmod (b : Int) = ((a % b : Nat) : Int) from rfl]
theorem bin_quoU (hk : isU k = true) (hb : 0 < b) (ha : a < szU k) : (binC P .quo t c).f (uint k a) (uint k b) = some (uint k (a / b)) := by
  rw [binC_int _ _ rfl]
  show (match eqB (b : Int) 0 with | true => none | false => some (Value.int k (wrapA k ((a : Int).tdiv b)))) = _
  rw [eqB_eq, decide_eq_false (by omega)]
  show some (Value.int k (wrapA k ((a / b : Nat) : Int))) = _
  rw [wrap_u hk, Nat.mod_eq_of_lt (Nat.lt_of_le_of_lt (Nat.div_le_self _ _) ha)]
theorem shl_eq {x y : Value} : (binC P .shl t c).f x y = match x with
    | .int k a => match y with | .int _ b => shiftA true k a b | _ => none
    | _ => none := rfl
theorem bin_shlU (hk : isU k = true) (hn : n ≤ wdU k) : (binC P .shl t c).f (uint k a) (uint k' n) = some (uint k (a * 2 ^ n % szU k)) := by
  show shiftA true k a n = _
  have hb : k.bits = wdU k := by cases k <;> first | (cases hk; done) | rfl
  unfold shiftA
  rw [if_neg (by omega), if_pos rfl, Int.toNat_natCast, hb, Nat.min_eq_left hn, show (a : Int) * ((2 ^ n : Nat) : Int) = ((a * 2 ^ n : Nat) : Int) by simp, wrap_u hk]
theorem bin_shrU (hk : isU k = true) (hn : n ≤ wdU k) : (binC P .shr t c).f (uint k a) (uint k' n) = some (uint k (a / 2 ^ n)) := by
  show shiftA false k a n = _
  have hb : k.bits = wdU k := by cases k <;> first | (cases hk; done) | rfl
  unfold shiftA
  rw [if_neg (by omega), if_neg (by simp), Int.toNat_natCast, hb, Nat.min_eq_left hn, ← Int.ofNat_fdiv]
theorem un_negU (hk : isU k = true) (ha : a < szU k) : unA .neg (uint k a) = some (uint k ((szU k - a) % szU k)) := by
  show some (Value.int k (wrapA k (0 - (a : Int)))) = _
  cases a with
  | zero =>
    rw [show (0 : Int) - ((0 : Nat) : Int) = ((0 : Nat) : Int) by simp, wrap_u hk]
    simp
  | succ m =>
    rw [show (0 : Int) - ((m + 1 : Nat) : Int) = Int.negSucc m by omega, Nat.mod_eq_of_lt (by omega)]
    have : wrapA k (Int.negSucc m) = ((szU k - 1 - m % szU k : Nat) : Int) := by cases k <;> first | (cases hk; done) | rfl
    rw [this, Nat.mod_eq_of_lt (by omega), show szU k - 1 - m = szU k - (m + 1) by omega]
theorem xor_all {w : Nat} (ha : a < 2 ^ w) : (2 ^ w - 1) ^^^ a = 2 ^ w - 1 - a := by
  apply Nat.eq_of_testBit_eq
  intro i
  rw [show 2 ^ w - 1 - a = 2 ^ w - (a + 1) by omega, Nat.testBit_two_pow_sub_succ ha, Nat.testBit_xor, Nat.testBit_two_pow_sub_one]
  by_cases h : i < w
  · simp [h]
  · have : Nat.testBit a i = false := Nat.testBit_lt_two_pow (Nat.lt_of_lt_of_le ha (Nat.pow_le_pow_right (by omega) (by omega)))
    simp [h, this]
theorem un_notU (hk : isU k = true) (ha : a < szU k) : unA .xor (uint k a) = some (uint k (szU k - 1 - a)) := by
  show some (Value.int k (wrapA k ((Nat.xor (bitsA k (if k.signed then -1 else k.max)) (bitsA k (a : Int)) : Nat) : Int))) = _
  have hm : bitsA k (if k.signed then -1 else k.max) = szU k - 1 := by cases k <;> first | (cases hk; done) | rfl
  rw [hm, bits_u hk, Nat.mod_eq_of_lt ha, wrap_u hk, show Nat.xor (szU k - 1) a = (2 ^ wdU k - 1) ^^^ a from rfl, xor_all ha, Nat.mod_eq_of_lt (by unfold szU at *; omega)]
  rfl
theorem cvU (hk : isU k' = true) : cvInt k' (uint k a) H = some (uint k' (a % szU k'), H) := by
  show some (Value.int k' (wrapA k' (a : Int)), H) = _
  rw [wrap_u hk]
theorem cvUi (h : a ≤ 9223372036854775807) : cvInt .i64 (uint k a) H = some (int a, H) := cvInt_i (by omega) (by omega)
theorem bin_eqlU : (binC P .eql t c).f (uint k a) (uint k b) = some (.bool (decide (a = b))) := by rw [bin_eql]; congr 2; exact decide_eq_decide.2 Int.ofNat_inj
end
end Go.Ab
