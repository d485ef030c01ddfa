/- texts of the proof, one behind the other -/
import Derived.KernelRfl
import Derived.Test.YtdiimfnakedaoaaGreatDoorUA
set_option linter.unusedSimpArgs false
set_option linter.unusedSectionVars false
set_option linter.unusedVariables false
set_option maxRecDepth 100000
namespace J
open Go Go.Ab
noncomputable abbrev P : Program := Go.Proofs.Tryz.prog
noncomputable section
abbrev n_ref02_Sum : Nat := 23
abbrev n_ref02_first : Nat := 52
abbrev n_ref02_rounds : Nat := 53
abbrev n_ref02_right : Nat := 54
abbrev n_digest_words_mix : Nat := 277
abbrev n_digest_spread : Nat := 283
abbrev n_digest_table : Nat := 284
abbrev n_digest_turn : Nat := 285
abbrev n_math_bits_RotateLeft32 : Nat := 287
abbrev n_crc_step : Nat := 288
noncomputable instance : Orc := Seal.orcS2
instance (priority := 1) noBase : Base := ⟨fun _ => none, 0⟩
noncomputable abbrev ref02_Sum_P0 : Code := loopAt P n_ref02_Sum 0
noncomputable abbrev ref02_Sum_P1 : Code := loopAt P n_ref02_Sum 1
noncomputable abbrev ref02_Sum_P2 : Code := loopAt P n_ref02_Sum 2
noncomputable abbrev ref02_Sum_P3 : Code := loopAt P n_ref02_Sum 3
noncomputable abbrev ref02_Sum_P4 : Code := loopAt P n_ref02_Sum 4
noncomputable abbrev ref02_Sum_P5 : Code := loopAt P n_ref02_Sum 5
noncomputable abbrev ref02_Sum_P6 : Code := loopAt P n_ref02_Sum 6
noncomputable abbrev ref02_Sum_P7 : Code := loopAt P n_ref02_Sum 7
def ref02_Sum_L0 (l : List Value) (H : Heap) (N : List Value → Heap → Prop) (Qx : Nat → List Value → Heap → Prop) (Qr : List Value → Heap → Prop) : Prop :=
opW (lenSl (nth l 2) H) fun a b =>
opP ((binC P .rem 3 true).f a (.int .i64 64)) fun c =>
opP ((binC P .neq 3 true).f c (.int .i64 56)) fun d =>
wIf d (
opW ((buildSliceC P 28 1).f [(0, (.int .u8 0))] b) fun e f =>
opW (appendWith 1 1 (nth l 2) e f) fun g h =>
N [(nth l 0), (nth l 1), g] h) (
Qx 0 [(nth l 0), (nth l 1), (nth l 2)] b)
theorem ref02_Sum_L0_eq (l : List Value) (H : Heap) (N : List Value → Heap → Prop) (Qx : Nat → List Value → Heap → Prop) (Qr : List Value → Heap → Prop) : vcC P true 252 ref02_Sum_P0 (live ref02_Sum_P0 0 13) 13 (envOf (bits 252 (live ref02_Sum_P0 0 13)) l) H (loopQ 252 ref02_Sum_P0 13 N Qx Qr) = ref02_Sum_L0 l H N Qx Qr := by kernel_rfl
theorem ref02_Sum_L0_ind (I : Nat → List Value → Heap → Prop) (Qx : Nat → List Value → Heap → Prop) (Qr : List Value → Heap → Prop) (hs : ∀ k l H, I k l H → ref02_Sum_L0 l H (fun l H => ∃ k', k' < k ∧ I k' l H) Qx Qr) (k : Nat) (l : List Value) (H : Heap) (h : I k l H) : wLoop P true 252 ref02_Sum_P0 13 l H Qx Qr :=
  loop_ind (by kernel_rfl) I (fun k l H h => (ref02_Sum_L0_eq l H _ Qx Qr).mpr (hs k l H h)) k l H h
def ref02_Sum_L1 (l : List Value) (H : Heap) (N : List Value → Heap → Prop) (Qx : Nat → List Value → Heap → Prop) (Qr : List Value → Heap → Prop) : Prop :=
opP ((binC P .lss 3 true).f (nth l 4) (.int .i64 8)) fun a =>
wIf a (
opP ((binC P .quo 31 false).f (nth l 2) (nth l 3)) fun b =>
opP ((binC P .rem 31 true).f b (.int .u64 256)) fun c =>
opW (cvInt .u8 c H) fun d e =>
opW ((buildSliceC P 28 1).f [(0, d)] e) fun f g =>
opW (appendWith 1 1 (nth l 1) f g) fun h i =>
opP ((binC P .quo 31 true).f (nth l 3) (.int .u64 256)) fun j =>
opP ((binC P .add 3 true).f (nth l 4) (.int .i64 1)) fun k =>
N [(nth l 0), h, (nth l 2), j, k] i) (
Qx 2 [(nth l 0), (nth l 1)] H)
theorem ref02_Sum_L1_eq (l : List Value) (H : Heap) (N : List Value → Heap → Prop) (Qx : Nat → List Value → Heap → Prop) (Qr : List Value → Heap → Prop) : vcC P true 252 ref02_Sum_P1 (live ref02_Sum_P1 0 12) 12 (envOf (bits 252 (live ref02_Sum_P1 0 12)) l) H (loopQ 252 ref02_Sum_P1 12 N Qx Qr) = ref02_Sum_L1 l H N Qx Qr := by kernel_rfl
theorem ref02_Sum_L1_ind (I : Nat → List Value → Heap → Prop) (Qx : Nat → List Value → Heap → Prop) (Qr : List Value → Heap → Prop) (hs : ∀ k l H, I k l H → ref02_Sum_L1 l H (fun l H => ∃ k', k' < k ∧ I k' l H) Qx Qr) (k : Nat) (l : List Value) (H : Heap) (h : I k l H) : wLoop P true 252 ref02_Sum_P1 12 l H Qx Qr :=
  loop_ind (by kernel_rfl) I (fun k l H h => (ref02_Sum_L1_eq l H _ Qx Qr).mpr (hs k l H h)) k l H h
def ref02_Sum_L2 (l : List Value) (H : Heap) (N : List Value → Heap → Prop) (Qx : Nat → List Value → Heap → Prop) (Qr : List Value → Heap → Prop) : Prop :=
opW (lenSl (nth l 1) H) fun a b =>
opP ((binC P .lss 3 false).f (nth l 4) a) fun c =>
wIf c (
opP ((buildC P 140).f []) fun d =>
wNew (zc P 140) b fun e f =>
opW (storeTo 64 e d f) fun g h =>
wLoop P true 252 ref02_Sum_P3 1932 [(nth l 0), (nth l 1), (nth l 2), (nth l 3), (nth l 4), e, (.int .i64 0)] h (fun id i j =>
cond (Nat.beq id 6) (
opW (loadAgg 8 (nth i 2) j) fun k m =>
wNew (zc P 138) m fun n o =>
opW (storeTo 8 n k o) fun p q =>
wLoop P true 252 ref02_Sum_P5 33676 [(nth i 0), (nth i 1), (nth i 2), (nth i 3), (nth i 4), (nth i 5), n, (.int .i64 0)] q (fun id r s =>
cond (Nat.beq id 10) (
wLoop P true 252 ref02_Sum_P6 908 [(nth r 0), (nth r 1), (nth r 2), (nth r 3), (nth r 4), (nth r 5), (.int .i64 0)] s (fun id t u =>
cond (Nat.beq id 12) (
opP ((binC P .add 3 true).f (nth t 4) (.int .i64 64)) fun v =>
N [(nth t 0), (nth t 1), (nth t 2), (nth t 3), v] u) (
cond (Nat.beq id 5) (
opP ((binC P .add 3 true).f (nth t 4) (.int .i64 64)) fun v =>
N [(nth t 0), (nth t 1), (nth t 2), (nth t 3), v] u) (
Qx id [(nth t 0), (nth t 2)] u))) (fun t u =>
Qr [(nth t 0), (nth t 2)] u)) (
cond (Nat.beq id 5) (
opP ((binC P .add 3 true).f (nth r 4) (.int .i64 64)) fun t =>
N [(nth r 0), (nth r 1), (nth r 2), (nth r 3), t] s) (
Qx id [(nth r 0), (nth r 2)] s))) (fun r s =>
Qr [(nth r 0), (nth r 2)] s)) (
cond (Nat.beq id 5) (
opP ((binC P .add 3 true).f (nth i 4) (.int .i64 64)) fun k =>
N [(nth i 0), (nth i 1), (nth i 2), (nth i 3), k] j) (
Qx id [(nth i 0), (nth i 2)] j))) (fun i j =>
Qr [(nth i 0), (nth i 2)] j)) (
Qx 4 [(nth l 0), (nth l 2)] b)
theorem ref02_Sum_L2_eq (l : List Value) (H : Heap) (N : List Value → Heap → Prop) (Qx : Nat → List Value → Heap → Prop) (Qr : List Value → Heap → Prop) : vcC P true 252 ref02_Sum_P2 (live ref02_Sum_P2 0 132) 132 (envOf (bits 252 (live ref02_Sum_P2 0 132)) l) H (loopQ 252 ref02_Sum_P2 132 N Qx Qr) = ref02_Sum_L2 l H N Qx Qr := by kernel_rfl
theorem ref02_Sum_L2_ind (I : Nat → List Value → Heap → Prop) (Qx : Nat → List Value → Heap → Prop) (Qr : List Value → Heap → Prop) (hs : ∀ k l H, I k l H → ref02_Sum_L2 l H (fun l H => ∃ k', k' < k ∧ I k' l H) Qx Qr) (k : Nat) (l : List Value) (H : Heap) (h : I k l H) : wLoop P true 252 ref02_Sum_P2 132 l H Qx Qr :=
  loop_ind (by kernel_rfl) I (fun k l H h => (ref02_Sum_L2_eq l H _ Qx Qr).mpr (hs k l H h)) k l H h
def ref02_Sum_L7 (l : List Value) (H : Heap) (N : List Value → Heap → Prop) (Qx : Nat → List Value → Heap → Prop) (Qr : List Value → Heap → Prop) : Prop :=
opP ((binC P .lss 3 true).f (nth l 3) (.int .i64 32)) fun a =>
wIf a (
opP ((binC P .quo 3 true).f (nth l 3) (.int .i64 4)) fun b =>
opP (idxPtr 8 1 (nth l 1) b) fun c =>
opW (loadOne c H) fun d e =>
opP ((binC P .rem 3 true).f (nth l 3) (.int .i64 4)) fun f =>
opP ((binC P .mul 3 true).f (.int .i64 8) f) fun g =>
opP ((binC P .sub 3 true).f (.int .i64 24) g) fun h =>
opP ((binC P .shr 31 false).f d h) fun i =>
opP ((binC P .rem 31 true).f i (.int .u64 256)) fun j =>
opW (cvInt .u8 j e) fun k m =>
opP (idxPtr 32 1 (nth l 2) (nth l 3)) fun n =>
opW (storeTo 1 n k m) fun o p =>
opP ((binC P .add 3 true).f (nth l 3) (.int .i64 1)) fun q =>
N [(nth l 0), (nth l 1), (nth l 2), q] p) (
Qx 14 [(nth l 0), (nth l 2)] H)
theorem ref02_Sum_L7_eq (l : List Value) (H : Heap) (N : List Value → Heap → Prop) (Qx : Nat → List Value → Heap → Prop) (Qr : List Value → Heap → Prop) : vcC P true 252 ref02_Sum_P7 (live ref02_Sum_P7 0 8388612) 8388612 (envOf (bits 252 (live ref02_Sum_P7 0 8388612)) l) H (loopQ 252 ref02_Sum_P7 8388612 N Qx Qr) = ref02_Sum_L7 l H N Qx Qr := by kernel_rfl
theorem ref02_Sum_L7_ind (I : Nat → List Value → Heap → Prop) (Qx : Nat → List Value → Heap → Prop) (Qr : List Value → Heap → Prop) (hs : ∀ k l H, I k l H → ref02_Sum_L7 l H (fun l H => ∃ k', k' < k ∧ I k' l H) Qx Qr) (k : Nat) (l : List Value) (H : Heap) (h : I k l H) : wLoop P true 252 ref02_Sum_P7 8388612 l H Qx Qr :=
  loop_ind (by kernel_rfl) I (fun k l H h => (ref02_Sum_L7_eq l H _ Qx Qr).mpr (hs k l H h)) k l H h
def ref02_Sum_L3 (l : List Value) (H : Heap) (N : List Value → Heap → Prop) (Qx : Nat → List Value → Heap → Prop) (Qr : List Value → Heap → Prop) : Prop :=
opP ((binC P .lss 3 true).f (nth l 6) (.int .i64 64)) fun a =>
wIf a (
opP ((binC P .lss 3 true).f (nth l 6) (.int .i64 16)) fun b =>
wIf b (
wLoop P true 252 ref02_Sum_P4 3980 [(nth l 0), (nth l 1), (nth l 2), (nth l 3), (nth l 4), (nth l 5), (nth l 6), (.int .i64 0)] H (fun id c d =>
cond (Nat.beq id 8) (
opP ((binC P .add 3 true).f (nth c 6) (.int .i64 1)) fun e =>
N [(nth c 0), (nth c 1), (nth c 2), (nth c 3), (nth c 4), (nth c 5), e] d) (
cond (Nat.beq id 7) (
opP ((binC P .add 3 true).f (nth c 6) (.int .i64 1)) fun e =>
N [(nth c 0), (nth c 1), (nth c 2), (nth c 3), (nth c 4), (nth c 5), e] d) (
Qx id [(nth c 0), (nth c 1), (nth c 2), (nth c 3), (nth c 4), (nth c 5)] d))) (fun c d =>
Qr [(nth c 0), (nth c 1), (nth c 2), (nth c 3), (nth c 4), (nth c 5)] d)) (
opP ((binC P .sub 3 true).f (nth l 6) (.int .i64 15)) fun c =>
opP (idxPtr 64 1 (nth l 5) c) fun d =>
opW (loadOne d H) fun e f =>
opP ((binC P .sub 3 true).f (nth l 6) (.int .i64 2)) fun g =>
opP (idxPtr 64 1 (nth l 5) g) fun h =>
opW (loadOne h f) fun i j =>
opP ((binC P .sub 3 true).f (nth l 6) (.int .i64 16)) fun k =>
opP (idxPtr 64 1 (nth l 5) k) fun m =>
opW (loadOne m j) fun n o =>
wCall P n_ref02_right [e, (.int .u64 7)] o fun p q =>
cSame (sameB o q) (idsOf [m]) ∧ (wCall P n_ref02_right [e, (.int .u64 18)] q fun r s =>
cSame (sameB q s) (idsOf [m]) ∧ (opP ((binC P .xor 31 false).f p r) fun t =>
opP ((binC P .shr 31 true).f e (.int .u64 3)) fun u =>
opP ((binC P .xor 31 false).f t u) fun v =>
opP ((binC P .add 31 false).f n v) fun w =>
opP ((binC P .sub 3 true).f (nth l 6) (.int .i64 7)) fun x =>
opP (idxPtr 64 1 (nth l 5) x) fun y =>
opW (loadOne y s) fun z A =>
cSame (sameB q s) (idsOf [y]) ∧ (cSame (sameB o q) (idsOf [y]) ∧ (opP ((binC P .add 31 false).f w z) fun B =>
wCall P n_ref02_right [i, (.int .u64 17)] A fun C D =>
cSame (sameB A D) (idsOf [y]) ∧ (cSame (sameB A D) (idsOf [m]) ∧ (wCall P n_ref02_right [i, (.int .u64 19)] D fun E F =>
cSame (sameB D F) (idsOf [y]) ∧ (cSame (sameB D F) (idsOf [m]) ∧ (opP ((binC P .xor 31 false).f C E) fun G =>
opP ((binC P .shr 31 true).f i (.int .u64 10)) fun I =>
opP ((binC P .xor 31 false).f G I) fun J =>
opP ((binC P .add 31 false).f B J) fun L =>
opP ((binC P .rem 31 true).f L (.int .u64 4294967296)) fun M =>
opP (idxPtr 64 1 (nth l 5) (nth l 6)) fun O =>
opW (storeTo 1 O M F) fun Q R =>
opP ((binC P .add 3 true).f (nth l 6) (.int .i64 1)) fun S =>
N [(nth l 0), (nth l 1), (nth l 2), (nth l 3), (nth l 4), (nth l 5), S] R)))))))))) (
Qx 6 [(nth l 0), (nth l 1), (nth l 2), (nth l 3), (nth l 4), (nth l 5)] H)
theorem ref02_Sum_L3_eq (l : List Value) (H : Heap) (N : List Value → Heap → Prop) (Qx : Nat → List Value → Heap → Prop) (Qr : List Value → Heap → Prop) : vcC P true 252 ref02_Sum_P3 (live ref02_Sum_P3 0 1932) 1932 (envOf (bits 252 (live ref02_Sum_P3 0 1932)) l) H (loopQ 252 ref02_Sum_P3 1932 N Qx Qr) = ref02_Sum_L3 l H N Qx Qr := by kernel_rfl
theorem ref02_Sum_L3_ind (I : Nat → List Value → Heap → Prop) (Qx : Nat → List Value → Heap → Prop) (Qr : List Value → Heap → Prop) (hs : ∀ k l H, I k l H → ref02_Sum_L3 l H (fun l H => ∃ k', k' < k ∧ I k' l H) Qx Qr) (k : Nat) (l : List Value) (H : Heap) (h : I k l H) : wLoop P true 252 ref02_Sum_P3 1932 l H Qx Qr :=
  loop_ind (by kernel_rfl) I (fun k l H h => (ref02_Sum_L3_eq l H _ Qx Qr).mpr (hs k l H h)) k l H h
def ref02_Sum_L5 (l : List Value) (H : Heap) (N : List Value → Heap → Prop) (Qx : Nat → List Value → Heap → Prop) (Qr : List Value → Heap → Prop) : Prop :=
opP ((binC P .lss 3 true).f (nth l 7) (.int .i64 64)) fun a =>
wIf a (
opP (idxPtr 8 1 (nth l 6) (.int .i64 4)) fun b =>
opW (loadOne b H) fun c d =>
opP (idxPtr 8 1 (nth l 6) (.int .i64 5)) fun e =>
opW (loadOne e d) fun f g =>
opP ((binC P .and 31 false).f c f) fun h =>
opP ((binC P .sub 31 true).f (.int .u64 4294967295) c) fun i =>
opP (idxPtr 8 1 (nth l 6) (.int .i64 6)) fun j =>
opW (loadOne j g) fun k m =>
opP ((binC P .and 31 false).f i k) fun n =>
opP ((binC P .xor 31 false).f h n) fun o =>
opP (idxPtr 8 1 (nth l 6) (.int .i64 7)) fun p =>
opW (loadOne p m) fun q r =>
wCall P n_ref02_right [c, (.int .u64 6)] r fun s t =>
cSame (sameB r t) (idsOf [p]) ∧ (wCall P n_ref02_right [c, (.int .u64 11)] t fun u v =>
cSame (sameB t v) (idsOf [p]) ∧ (opP ((binC P .xor 31 false).f s u) fun w =>
wCall P n_ref02_right [c, (.int .u64 25)] v fun x y =>
cSame (sameB v y) (idsOf [p]) ∧ (opP ((binC P .xor 31 false).f w x) fun z =>
opP ((binC P .add 31 false).f q z) fun A =>
opP ((binC P .add 31 false).f A o) fun B =>
opP (idxPtr 64 1 (nth l 3) (nth l 7)) fun C =>
opW (loadOne C y) fun D E =>
cSame (sameB v y) (idsOf [C]) ∧ (cSame (sameB t v) (idsOf [C]) ∧ (cSame (sameB r t) (idsOf [C]) ∧ (opP ((binC P .add 31 false).f B D) fun F =>
opP (idxPtr 64 1 (nth l 5) (nth l 7)) fun G =>
opW (loadOne G E) fun I J =>
cSame (sameB v y) (idsOf [G]) ∧ (cSame (sameB t v) (idsOf [G]) ∧ (cSame (sameB r t) (idsOf [G]) ∧ (opP ((binC P .add 31 false).f F I) fun L =>
opP (idxPtr 8 1 (nth l 6) (.int .i64 0)) fun M =>
opW (loadOne M J) fun O Q =>
opP (idxPtr 8 1 (nth l 6) (.int .i64 1)) fun R =>
opW (loadOne R Q) fun S T =>
opP ((binC P .and 31 false).f O S) fun U =>
opP (idxPtr 8 1 (nth l 6) (.int .i64 0)) fun V =>
opW (loadOne V T) fun W X =>
opP (idxPtr 8 1 (nth l 6) (.int .i64 2)) fun Y =>
opW (loadOne Y X) fun Z a0 =>
opP ((binC P .and 31 false).f W Z) fun a1 =>
opP ((binC P .xor 31 false).f U a1) fun a2 =>
opP (idxPtr 8 1 (nth l 6) (.int .i64 1)) fun a3 =>
opW (loadOne a3 a0) fun a4 a5 =>
opP (idxPtr 8 1 (nth l 6) (.int .i64 2)) fun a6 =>
opW (loadOne a6 a5) fun a7 a8 =>
opP ((binC P .and 31 false).f a4 a7) fun a9 =>
opP ((binC P .xor 31 false).f a2 a9) fun b0 =>
opP (idxPtr 8 1 (nth l 6) (.int .i64 0)) fun b1 =>
opW (loadOne b1 a8) fun b2 b3 =>
wCall P n_ref02_right [b2, (.int .u64 2)] b3 fun b4 b5 =>
opP (idxPtr 8 1 (nth l 6) (.int .i64 0)) fun b6 =>
opW (loadOne b6 b5) fun b7 b8 =>
cSame (sameB b3 b5) (idsOf [b6]) ∧ (wCall P n_ref02_right [b7, (.int .u64 13)] b8 fun b9 c0 =>
opP ((binC P .xor 31 false).f b4 b9) fun c1 =>
opP (idxPtr 8 1 (nth l 6) (.int .i64 0)) fun c2 =>
opW (loadOne c2 c0) fun c3 c4 =>
cSame (sameB b8 c0) (idsOf [c2]) ∧ (cSame (sameB b3 b5) (idsOf [c2]) ∧ (wCall P n_ref02_right [c3, (.int .u64 22)] c4 fun c5 c6 =>
opP ((binC P .xor 31 false).f c1 c5) fun c7 =>
opP ((binC P .add 31 false).f c7 b0) fun c8 =>
opP ((binC P .add 31 false).f L c8) fun c9 =>
opP ((binC P .rem 31 true).f c9 (.int .u64 4294967296)) fun d0 =>
opP (idxPtr 8 1 (nth l 6) (.int .i64 0)) fun d1 =>
opW (loadOne d1 c6) fun d2 d3 =>
opP (idxPtr 8 1 (nth l 6) (.int .i64 1)) fun d4 =>
opW (loadOne d4 d3) fun d5 d6 =>
opP (idxPtr 8 1 (nth l 6) (.int .i64 2)) fun d7 =>
opW (loadOne d7 d6) fun d8 d9 =>
opP (idxPtr 8 1 (nth l 6) (.int .i64 3)) fun e0 =>
opW (loadOne e0 d9) fun e1 e2 =>
opP ((binC P .add 31 false).f e1 L) fun e3 =>
opP ((binC P .rem 31 true).f e3 (.int .u64 4294967296)) fun e4 =>
opP (idxPtr 8 1 (nth l 6) (.int .i64 4)) fun e5 =>
opW (loadOne e5 e2) fun e6 e7 =>
opP (idxPtr 8 1 (nth l 6) (.int .i64 5)) fun e8 =>
opW (loadOne e8 e7) fun e9 f0 =>
opP (idxPtr 8 1 (nth l 6) (.int .i64 6)) fun f1 =>
opW (loadOne f1 f0) fun f2 f3 =>
opP ((buildC P 138).f [(0, d0), (1, d2), (2, d5), (3, d8), (4, e4), (5, e6), (6, e9), (7, f2)]) fun f4 =>
opW (storeTo 8 (nth l 6) f4 f3) fun f5 f6 =>
opP ((binC P .add 3 true).f (nth l 7) (.int .i64 1)) fun f7 =>
N [(nth l 0), (nth l 1), (nth l 2), (nth l 3), (nth l 4), (nth l 5), (nth l 6), f7] f6))))))))))))) (
Qx 10 [(nth l 0), (nth l 1), (nth l 2), (nth l 3), (nth l 4), (nth l 6)] H)
theorem ref02_Sum_L5_eq (l : List Value) (H : Heap) (N : List Value → Heap → Prop) (Qx : Nat → List Value → Heap → Prop) (Qr : List Value → Heap → Prop) : vcC P true 252 ref02_Sum_P5 (live ref02_Sum_P5 0 33676) 33676 (envOf (bits 252 (live ref02_Sum_P5 0 33676)) l) H (loopQ 252 ref02_Sum_P5 33676 N Qx Qr) = ref02_Sum_L5 l H N Qx Qr := by kernel_rfl
theorem ref02_Sum_L5_ind (I : Nat → List Value → Heap → Prop) (Qx : Nat → List Value → Heap → Prop) (Qr : List Value → Heap → Prop) (hs : ∀ k l H, I k l H → ref02_Sum_L5 l H (fun l H => ∃ k', k' < k ∧ I k' l H) Qx Qr) (k : Nat) (l : List Value) (H : Heap) (h : I k l H) : wLoop P true 252 ref02_Sum_P5 33676 l H Qx Qr :=
  loop_ind (by kernel_rfl) I (fun k l H h => (ref02_Sum_L5_eq l H _ Qx Qr).mpr (hs k l H h)) k l H h
def ref02_Sum_L6 (l : List Value) (H : Heap) (N : List Value → Heap → Prop) (Qx : Nat → List Value → Heap → Prop) (Qr : List Value → Heap → Prop) : Prop :=
opP ((binC P .lss 3 true).f (nth l 6) (.int .i64 8)) fun a =>
wIf a (
opP (idxPtr 8 1 (nth l 2) (nth l 6)) fun b =>
opW (loadOne b H) fun c d =>
opP (idxPtr 8 1 (nth l 5) (nth l 6)) fun e =>
opW (loadOne e d) fun f g =>
opP ((binC P .add 31 false).f c f) fun h =>
opP ((binC P .rem 31 true).f h (.int .u64 4294967296)) fun i =>
opP (idxPtr 8 1 (nth l 2) (nth l 6)) fun j =>
opW (storeTo 1 j i g) fun k m =>
opP ((binC P .add 3 true).f (nth l 6) (.int .i64 1)) fun n =>
N [(nth l 0), (nth l 1), (nth l 2), (nth l 3), (nth l 4), (nth l 5), n] m) (
Qx 12 [(nth l 0), (nth l 1), (nth l 2), (nth l 3), (nth l 4)] H)
theorem ref02_Sum_L6_eq (l : List Value) (H : Heap) (N : List Value → Heap → Prop) (Qx : Nat → List Value → Heap → Prop) (Qr : List Value → Heap → Prop) : vcC P true 252 ref02_Sum_P6 (live ref02_Sum_P6 0 908) 908 (envOf (bits 252 (live ref02_Sum_P6 0 908)) l) H (loopQ 252 ref02_Sum_P6 908 N Qx Qr) = ref02_Sum_L6 l H N Qx Qr := by kernel_rfl
theorem ref02_Sum_L6_ind (I : Nat → List Value → Heap → Prop) (Qx : Nat → List Value → Heap → Prop) (Qr : List Value → Heap → Prop) (hs : ∀ k l H, I k l H → ref02_Sum_L6 l H (fun l H => ∃ k', k' < k ∧ I k' l H) Qx Qr) (k : Nat) (l : List Value) (H : Heap) (h : I k l H) : wLoop P true 252 ref02_Sum_P6 908 l H Qx Qr :=
  loop_ind (by kernel_rfl) I (fun k l H h => (ref02_Sum_L6_eq l H _ Qx Qr).mpr (hs k l H h)) k l H h
def ref02_Sum_L4 (l : List Value) (H : Heap) (N : List Value → Heap → Prop) (Qx : Nat → List Value → Heap → Prop) (Qr : List Value → Heap → Prop) : Prop :=
opP ((binC P .lss 3 true).f (nth l 7) (.int .i64 4)) fun a =>
wIf a (
opP (idxPtr 64 1 (nth l 5) (nth l 6)) fun b =>
opW (loadOne b H) fun c d =>
opP ((binC P .mul 31 true).f (.int .u64 256) c) fun e =>
opP ((binC P .mul 3 true).f (.int .i64 4) (nth l 6)) fun f =>
opP ((binC P .add 3 false).f (nth l 4) f) fun g =>
opP ((binC P .add 3 false).f g (nth l 7)) fun h =>
opP (idxSl 1 (nth l 1) h) fun i =>
opW (loadOne i d) fun j k =>
opW (cvInt .u64 j k) fun m n =>
opP ((binC P .add 31 false).f e m) fun o =>
opP (idxPtr 64 1 (nth l 5) (nth l 6)) fun p =>
opW (storeTo 1 p o n) fun q r =>
opP ((binC P .add 3 true).f (nth l 7) (.int .i64 1)) fun s =>
N [(nth l 0), (nth l 1), (nth l 2), (nth l 3), (nth l 4), (nth l 5), (nth l 6), s] r) (
Qx 8 [(nth l 0), (nth l 1), (nth l 2), (nth l 3), (nth l 4), (nth l 5), (nth l 6)] H)
theorem ref02_Sum_L4_eq (l : List Value) (H : Heap) (N : List Value → Heap → Prop) (Qx : Nat → List Value → Heap → Prop) (Qr : List Value → Heap → Prop) : vcC P true 252 ref02_Sum_P4 (live ref02_Sum_P4 0 3980) 3980 (envOf (bits 252 (live ref02_Sum_P4 0 3980)) l) H (loopQ 252 ref02_Sum_P4 3980 N Qx Qr) = ref02_Sum_L4 l H N Qx Qr := by kernel_rfl
theorem ref02_Sum_L4_ind (I : Nat → List Value → Heap → Prop) (Qx : Nat → List Value → Heap → Prop) (Qr : List Value → Heap → Prop) (hs : ∀ k l H, I k l H → ref02_Sum_L4 l H (fun l H => ∃ k', k' < k ∧ I k' l H) Qx Qr) (k : Nat) (l : List Value) (H : Heap) (h : I k l H) : wLoop P true 252 ref02_Sum_P4 3980 l H Qx Qr :=
  loop_ind (by kernel_rfl) I (fun k l H h => (ref02_Sum_L4_eq l H _ Qx Qr).mpr (hs k l H h)) k l H h
def ref02_Sum (t0 : Value) (H : Heap) (K : Value → Heap → Prop) : Prop :=
wNew (zc P 33) H fun a b =>
opW ((buildSliceC P 28 0).f [] b) fun c d =>
opW (appendWith 1 1 c t0 d) fun e f =>
opW ((buildSliceC P 28 1).f [(0, (.int .u8 128))] f) fun g h =>
opW (appendWith 1 1 e g h) fun i j =>
wLoop P true 252 ref02_Sum_P0 13 [t0, a, i] j (fun id k m =>
cond (Nat.beq id 0) (
opW (lenSl (nth k 0) m) fun n o =>
opW (cvInt .u64 n o) fun p q =>
opP ((binC P .mul 31 true).f p (.int .u64 8)) fun r =>
wLoop P true 252 ref02_Sum_P1 12 [(nth k 1), (nth k 2), r, (.int .u64 72057594037927936), (.int .i64 0)] q (fun id s t =>
cond (Nat.beq id 2) (
wCall P n_ref02_first [] t fun u v =>
wCall P n_ref02_rounds [] v fun w x =>
wNew (zc P 138) x fun y z =>
wNew (zc P 140) z fun A B =>
opW (storeTo 8 y u B) fun C D =>
opW (storeTo 64 A w D) fun E F =>
wLoop P true 252 ref02_Sum_P2 132 [(nth s 0), (nth s 1), y, A, (.int .i64 0)] F (fun id G I =>
cond (Nat.beq id 4) (
opP ((buildC P 33).f []) fun J =>
wNew (zc P 33) I fun L M =>
opW (storeTo 32 L J M) fun O Q =>
wLoop P true 252 ref02_Sum_P7 8388612 [(nth G 0), (nth G 1), L, (.int .i64 0)] Q (fun id R S =>
cond (Nat.beq id 14) (
opW (loadAgg 32 (nth R 1) S) fun T U =>
opW (storeTo 32 (nth R 0) T U) fun V W =>
opW (loadAgg 32 (nth R 0) W) fun X _ =>
K X W) (
False)) (fun R S =>
opW (loadAgg 32 (nth R 0) S) fun T _ =>
K T S)) (
False)) (fun G I =>
opW (loadAgg 32 (nth G 0) I) fun J _ =>
K J I)) (
False)) (fun s t =>
opW (loadAgg 32 (nth s 0) t) fun u _ =>
K u t)) (
False)) (fun k m =>
opW (loadAgg 32 (nth k 1) m) fun n _ =>
K n m)
theorem ref02_Sum_eq (t0 : Value) (H : Heap) (K : Value → Heap → Prop) : vcF P n_ref02_Sum [t0] H K = ref02_Sum t0 H K := by kernel_rfl
theorem ref02_Sum_ok {t0 : Value} {H : Heap} {K : Value → Heap → Prop} (h : ref02_Sum t0 H K) : wCall P n_ref02_Sum [t0] H K := wCall_of_vcF rfl ((ref02_Sum_eq t0 H K).mpr h)
def ref02_first (H : Heap) (K : Value → Heap → Prop) : Prop :=
wNew (zc P 138) H fun a b =>
opP ((buildC P 138).f [(0, (.int .u64 1779033703)), (1, (.int .u64 3144134277)), (2, (.int .u64 1013904242)), (3, (.int .u64 2773480762)), (4, (.int .u64 1359893119)), (5, (.int .u64 2600822924)), (6, (.int .u64 528734635)), (7, (.int .u64 1541459225))]) fun c =>
opW (storeTo 8 a c b) fun d e =>
opW (loadAgg 8 a e) fun f _ =>
K f e
theorem ref02_first_eq (H : Heap) (K : Value → Heap → Prop) : vcF P n_ref02_first [] H K = ref02_first  H K := by kernel_rfl
theorem ref02_first_ok {H : Heap} {K : Value → Heap → Prop} (h : ref02_first  H K) : wCall P n_ref02_first [] H K := wCall_of_vcF rfl ((ref02_first_eq  H K).mpr h)
def ref02_rounds (H : Heap) (K : Value → Heap → Prop) : Prop :=
wNew (zc P 140) H fun a b =>
opP ((buildC P 140).f [(0, (.int .u64 1116352408)), (1, (.int .u64 1899447441)), (2, (.int .u64 3049323471)), (3, (.int .u64 3921009573)), (4, (.int .u64 961987163)), (5, (.int .u64 1508970993)), (6, (.int .u64 2453635748)), (7, (.int .u64 2870763221)), (8, (.int .u64 3624381080)), (9, (.int .u64 310598401)), (10, (.int .u64 607225278)), (11, (.int .u64 1426881987)), (12, (.int .u64 1925078388)), (13, (.int .u64 2162078206)), (14, (.int .u64 2614888103)), (15, (.int .u64 3248222580)), (16, (.int .u64 3835390401)), (17, (.int .u64 4022224774)), (18, (.int .u64 264347078)), (19, (.int .u64 604807628)), (20, (.int .u64 770255983)), (21, (.int .u64 1249150122)), (22, (.int .u64 1555081692)), (23, (.int .u64 1996064986)), (24, (.int .u64 2554220882)), (25, (.int .u64 2821834349)), (26, (.int .u64 2952996808)), (27, (.int .u64 3210313671)), (28, (.int .u64 3336571891)), (29, (.int .u64 3584528711)), (30, (.int .u64 113926993)), (31, (.int .u64 338241895)), (32, (.int .u64 666307205)), (33, (.int .u64 773529912)), (34, (.int .u64 1294757372)), (35, (.int .u64 1396182291)), (36, (.int .u64 1695183700)), (37, (.int .u64 1986661051)), (38, (.int .u64 2177026350)), (39, (.int .u64 2456956037)), (40, (.int .u64 2730485921)), (41, (.int .u64 2820302411)), (42, (.int .u64 3259730800)), (43, (.int .u64 3345764771)), (44, (.int .u64 3516065817)), (45, (.int .u64 3600352804)), (46, (.int .u64 4094571909)), (47, (.int .u64 275423344)), (48, (.int .u64 430227734)), (49, (.int .u64 506948616)), (50, (.int .u64 659060556)), (51, (.int .u64 883997877)), (52, (.int .u64 958139571)), (53, (.int .u64 1322822218)), (54, (.int .u64 1537002063)), (55, (.int .u64 1747873779)), (56, (.int .u64 1955562222)), (57, (.int .u64 2024104815)), (58, (.int .u64 2227730452)), (59, (.int .u64 2361852424)), (60, (.int .u64 2428436474)), (61, (.int .u64 2756734187)), (62, (.int .u64 3204031479)), (63, (.int .u64 3329325298))]) fun c =>
opW (storeTo 64 a c b) fun d e =>
opW (loadAgg 64 a e) fun f _ =>
K f e
theorem ref02_rounds_eq (H : Heap) (K : Value → Heap → Prop) : vcF P n_ref02_rounds [] H K = ref02_rounds  H K := by kernel_rfl
theorem ref02_rounds_ok {H : Heap} {K : Value → Heap → Prop} (h : ref02_rounds  H K) : wCall P n_ref02_rounds [] H K := wCall_of_vcF rfl ((ref02_rounds_eq  H K).mpr h)
def ref02_right (t0 t1 : Value) (H : Heap) (K : Value → Heap → Prop) : Prop :=
opP ((binC P .shr 31 false).f t0 t1) fun a =>
opP ((binC P .sub 31 true).f (.int .u64 32) t1) fun b =>
opP ((binC P .shl 31 false).f t0 b) fun c =>
opP ((binC P .or 31 false).f a c) fun d =>
opP ((binC P .rem 31 true).f d (.int .u64 4294967296)) fun e =>
K e H
theorem ref02_right_eq (t0 t1 : Value) (H : Heap) (K : Value → Heap → Prop) : vcF P n_ref02_right [t0, t1] H K = ref02_right t0 t1 H K := by kernel_rfl
theorem ref02_right_ok {t0 t1 : Value} {H : Heap} {K : Value → Heap → Prop} (h : ref02_right t0 t1 H K) : wCall P n_ref02_right [t0, t1] H K := wCall_of_vcF rfl ((ref02_right_eq t0 t1 H K).mpr h)
noncomputable abbrev digest_words_mix_P0 : Code := loopAt P n_digest_words_mix 0
noncomputable abbrev digest_words_mix_P1 : Code := loopAt P n_digest_words_mix 1
def digest_words_mix_L0 (l : List Value) (H : Heap) (N : List Value → Heap → Prop) (Qx : Nat → List Value → Heap → Prop) (Qr : List Value → Heap → Prop) : Prop :=
opP ((binC P .lss 3 true).f (nth l 5) (.int .i64 64)) fun a =>
wIf a (
opP (idxPtr 8 1 (nth l 4) (.int .i64 0)) fun b =>
opW (loadOne b H) fun c d =>
opP (idxPtr 8 1 (nth l 4) (.int .i64 4)) fun e =>
opW (loadOne e d) fun f g =>
opP (idxPtr 8 1 (nth l 4) (.int .i64 7)) fun h =>
opW (loadOne h g) fun i j =>
opW ((buildSliceC P 103 3).f [(0, (.int .i64 6)), (1, (.int .i64 11)), (2, (.int .i64 25))] j) fun k m =>
wCall P n_digest_turn [f, k] m fun n o =>
cSame (sameB m o) (idsOf [h]) ∧ (opP ((binC P .add 336 false).f i n) fun p =>
opP (idxPtr 8 1 (nth l 4) (.int .i64 5)) fun q =>
opW (loadOne q o) fun r s =>
cSame (sameB m o) (idsOf [q]) ∧ (cOut (idsOf [q]) j.next m.next ∧ (opP ((binC P .and 336 false).f f r) fun t =>
opP (unA .xor f) fun u =>
opP (idxPtr 8 1 (nth l 4) (.int .i64 6)) fun v =>
opW (loadOne v s) fun w x =>
cSame (sameB m o) (idsOf [v]) ∧ (cOut (idsOf [v]) j.next m.next ∧ (opP ((binC P .and 336 false).f u w) fun y =>
opP ((binC P .xor 336 false).f t y) fun z =>
opP ((binC P .add 336 false).f p z) fun A =>
opP (nilCheckA (nth l 3)) fun B =>
opP (idxPtr 64 1 B (nth l 5)) fun C =>
opW (loadOne C x) fun D E =>
cSame (sameB m o) (idsOf [C]) ∧ (cOut (idsOf [C]) j.next m.next ∧ (opP ((binC P .add 336 false).f A D) fun F =>
opP (idxPtr 64 1 (nth l 2) (nth l 5)) fun G =>
opW (loadOne G E) fun I J =>
cSame (sameB m o) (idsOf [G]) ∧ (cOut (idsOf [G]) j.next m.next ∧ (opP ((binC P .add 336 false).f F I) fun L =>
opW ((buildSliceC P 103 3).f [(0, (.int .i64 2)), (1, (.int .i64 13)), (2, (.int .i64 22))] J) fun M O =>
wCall P n_digest_turn [c, M] O fun Q R =>
opP (idxPtr 8 1 (nth l 4) (.int .i64 1)) fun S =>
opW (loadOne S R) fun T U =>
cSame (sameB O R) (idsOf [S]) ∧ (cOut (idsOf [S]) J.next O.next ∧ (opP ((binC P .and 336 false).f c T) fun V =>
opP (idxPtr 8 1 (nth l 4) (.int .i64 2)) fun W =>
opW (loadOne W U) fun X Y =>
cSame (sameB O R) (idsOf [W]) ∧ (cOut (idsOf [W]) J.next O.next ∧ (opP ((binC P .and 336 false).f c X) fun Z =>
opP ((binC P .xor 336 false).f V Z) fun a0 =>
opP (idxPtr 8 1 (nth l 4) (.int .i64 1)) fun a1 =>
opW (loadOne a1 Y) fun a2 a3 =>
cSame (sameB O R) (idsOf [a1]) ∧ (cOut (idsOf [a1]) J.next O.next ∧ (opP (idxPtr 8 1 (nth l 4) (.int .i64 2)) fun a4 =>
opW (loadOne a4 a3) fun a5 a6 =>
cSame (sameB O R) (idsOf [a4]) ∧ (cOut (idsOf [a4]) J.next O.next ∧ (opP ((binC P .and 336 false).f a2 a5) fun a7 =>
opP ((binC P .xor 336 false).f a0 a7) fun a8 =>
opP ((binC P .add 336 false).f Q a8) fun a9 =>
opP (sliceArr 8 1 (nth l 4) (some (.int .i64 1)) none none a6) fun b0 =>
opP (sliceArr 8 1 (nth l 4) none (some (.int .i64 7)) none a6) fun b1 =>
opW (copyTo 1 b0 b1 a6) fun b2 b3 =>
opP (idxPtr 8 1 (nth l 4) (.int .i64 4)) fun b4 =>
opW (loadOne b4 b3) fun b5 b6 =>
opP ((binC P .add 336 false).f b5 L) fun b7 =>
opP (idxPtr 8 1 (nth l 4) (.int .i64 4)) fun b8 =>
opW (storeTo 1 b8 b7 b6) fun b9 c0 =>
opP ((binC P .add 336 false).f L a9) fun c1 =>
opP (idxPtr 8 1 (nth l 4) (.int .i64 0)) fun c2 =>
opW (storeTo 1 c2 c1 c0) fun c3 c4 =>
opP ((binC P .add 3 true).f (nth l 5) (.int .i64 1)) fun c5 =>
N [(nth l 0), (nth l 1), (nth l 2), (nth l 3), (nth l 4), c5] c4)))))))))))))))))) (
Qx 0 [(nth l 0), (nth l 1), (nth l 4)] H)
theorem digest_words_mix_L0_eq (l : List Value) (H : Heap) (N : List Value → Heap → Prop) (Qx : Nat → List Value → Heap → Prop) (Qr : List Value → Heap → Prop) : vcC P true 97 digest_words_mix_P0 (live digest_words_mix_P0 0 148) 148 (envOf (bits 97 (live digest_words_mix_P0 0 148)) l) H (loopQ 97 digest_words_mix_P0 148 N Qx Qr) = digest_words_mix_L0 l H N Qx Qr := by kernel_rfl
theorem digest_words_mix_L0_ind (I : Nat → List Value → Heap → Prop) (Qx : Nat → List Value → Heap → Prop) (Qr : List Value → Heap → Prop) (hs : ∀ k l H, I k l H → digest_words_mix_L0 l H (fun l H => ∃ k', k' < k ∧ I k' l H) Qx Qr) (k : Nat) (l : List Value) (H : Heap) (h : I k l H) : wLoop P true 97 digest_words_mix_P0 148 l H Qx Qr :=
  loop_ind (by kernel_rfl) I (fun k l H h => (digest_words_mix_L0_eq l H _ Qx Qr).mpr (hs k l H h)) k l H h
def digest_words_mix_L1 (l : List Value) (H : Heap) (N : List Value → Heap → Prop) (Qx : Nat → List Value → Heap → Prop) (Qr : List Value → Heap → Prop) : Prop :=
opP ((binC P .lss 3 true).f (nth l 3) (.int .i64 8)) fun a =>
wIf a (
opP (idxPtr 8 1 (nth l 0) (nth l 3)) fun b =>
opW (loadOne b H) fun c d =>
opP (idxPtr 8 1 (nth l 2) (nth l 3)) fun e =>
opW (loadOne e d) fun f g =>
opP ((binC P .add 336 false).f c f) fun h =>
opP (idxPtr 8 1 (nth l 0) (nth l 3)) fun i =>
opW (storeTo 1 i h g) fun j k =>
opP ((binC P .add 3 true).f (nth l 3) (.int .i64 1)) fun m =>
N [(nth l 0), (nth l 1), (nth l 2), m] k) (
Qx 2 [(nth l 0), (nth l 1)] H)
theorem digest_words_mix_L1_eq (l : List Value) (H : Heap) (N : List Value → Heap → Prop) (Qx : Nat → List Value → Heap → Prop) (Qr : List Value → Heap → Prop) : vcC P true 97 digest_words_mix_P1 (live digest_words_mix_P1 0 20) 20 (envOf (bits 97 (live digest_words_mix_P1 0 20)) l) H (loopQ 97 digest_words_mix_P1 20 N Qx Qr) = digest_words_mix_L1 l H N Qx Qr := by kernel_rfl
theorem digest_words_mix_L1_ind (I : Nat → List Value → Heap → Prop) (Qx : Nat → List Value → Heap → Prop) (Qr : List Value → Heap → Prop) (hs : ∀ k l H, I k l H → digest_words_mix_L1 l H (fun l H => ∃ k', k' < k ∧ I k' l H) Qx Qr) (k : Nat) (l : List Value) (H : Heap) (h : I k l H) : wLoop P true 97 digest_words_mix_P1 20 l H Qx Qr :=
  loop_ind (by kernel_rfl) I (fun k l H h => (digest_words_mix_L1_eq l H _ Qx Qr).mpr (hs k l H h)) k l H h
def digest_words_mix (t0 t1 : Value) (H : Heap) (K : Value → Heap → Prop) : Prop :=
wNew (cellsL t0) H fun a b =>
wNew (zc P 409) b fun c d =>
wCall P n_digest_spread [t1] d fun e f =>
wCall P n_digest_table [] f fun g h =>
wNew (zc P 427) h fun i j =>
opW (storeTo 64 i e j) fun k m =>
opW (loadAgg 8 a m) fun n o =>
wNew (zc P 409) o fun p q =>
opW (storeTo 8 p n q) fun r s =>
wLoop P true 97 digest_words_mix_P0 148 [a, c, i, g, p, (.int .i64 0)] s (fun id t u =>
cond (Nat.beq id 0) (
wLoop P true 97 digest_words_mix_P1 20 [(nth t 0), (nth t 1), (nth t 2), (.int .i64 0)] u (fun id v w =>
cond (Nat.beq id 2) (
opW (loadAgg 8 (nth v 0) w) fun x y =>
opW (storeTo 8 (nth v 1) x y) fun z A =>
opW (loadAgg 8 (nth v 1) A) fun B _ =>
K B A) (
False)) (fun v w =>
opW (loadAgg 8 (nth v 1) w) fun x _ =>
K x w)) (
False)) (fun t u =>
opW (loadAgg 8 (nth t 1) u) fun v _ =>
K v u)
theorem digest_words_mix_eq (t0 t1 : Value) (H : Heap) (K : Value → Heap → Prop) : vcF P n_digest_words_mix [t0, t1] H K = digest_words_mix t0 t1 H K := by kernel_rfl
theorem digest_words_mix_ok {t0 t1 : Value} {H : Heap} {K : Value → Heap → Prop} (h : digest_words_mix t0 t1 H K) : wCall P n_digest_words_mix [t0, t1] H K := wCall_of_vcF rfl ((digest_words_mix_eq t0 t1 H K).mpr h)
noncomputable abbrev digest_spread_P0 : Code := loopAt P n_digest_spread 0
def digest_spread_L0 (l : List Value) (H : Heap) (N : List Value → Heap → Prop) (Qx : Nat → List Value → Heap → Prop) (Qr : List Value → Heap → Prop) : Prop :=
opP ((binC P .lss 3 true).f (nth l 3) (.int .i64 64)) fun a =>
wIf a (
opP ((binC P .lss 3 true).f (nth l 3) (.int .i64 16)) fun b =>
wIf b (
opP ((binC P .mul 3 true).f (.int .i64 4) (nth l 3)) fun c =>
opP (idxSl 1 (nth l 0) c) fun d =>
opW (loadOne d H) fun e f =>
opW (cvInt .u32 e f) fun g h =>
opP ((binC P .shl 336 true).f g (.int .u64 24)) fun i =>
opP ((binC P .mul 3 true).f (.int .i64 4) (nth l 3)) fun j =>
opP ((binC P .add 3 true).f j (.int .i64 1)) fun k =>
opP (idxSl 1 (nth l 0) k) fun m =>
opW (loadOne m h) fun n o =>
opW (cvInt .u32 n o) fun p q =>
opP ((binC P .shl 336 true).f p (.int .u64 16)) fun r =>
opP ((binC P .or 336 false).f i r) fun s =>
opP ((binC P .mul 3 true).f (.int .i64 4) (nth l 3)) fun t =>
opP ((binC P .add 3 true).f t (.int .i64 2)) fun u =>
opP (idxSl 1 (nth l 0) u) fun v =>
opW (loadOne v q) fun w x =>
opW (cvInt .u32 w x) fun y z =>
opP ((binC P .shl 336 true).f y (.int .u64 8)) fun A =>
opP ((binC P .or 336 false).f s A) fun B =>
opP ((binC P .mul 3 true).f (.int .i64 4) (nth l 3)) fun C =>
opP ((binC P .add 3 true).f C (.int .i64 3)) fun D =>
opP (idxSl 1 (nth l 0) D) fun E =>
opW (loadOne E z) fun F G =>
opW (cvInt .u32 F G) fun I J =>
opP ((binC P .or 336 false).f B I) fun L =>
opP (idxPtr 64 1 (nth l 2) (nth l 3)) fun M =>
opW (storeTo 1 M L J) fun O Q =>
opP ((binC P .add 3 true).f (nth l 3) (.int .i64 1)) fun R =>
N [(nth l 0), (nth l 1), (nth l 2), R] Q) (
opP ((binC P .sub 3 true).f (nth l 3) (.int .i64 15)) fun c =>
opP (idxPtr 64 1 (nth l 2) c) fun d =>
opW (loadOne d H) fun e f =>
opP ((binC P .sub 3 true).f (nth l 3) (.int .i64 2)) fun g =>
opP (idxPtr 64 1 (nth l 2) g) fun h =>
opW (loadOne h f) fun i j =>
opP ((binC P .sub 3 true).f (nth l 3) (.int .i64 16)) fun k =>
opP (idxPtr 64 1 (nth l 2) k) fun m =>
opW (loadOne m j) fun n o =>
opW ((buildSliceC P 103 2).f [(0, (.int .i64 7)), (1, (.int .i64 18))] o) fun p q =>
wCall P n_digest_turn [e, p] q fun r s =>
cSame (sameB q s) (idsOf [m]) ∧ (opP ((binC P .shr 336 true).f e (.int .u64 3)) fun t =>
opP ((binC P .xor 336 false).f r t) fun u =>
opP ((binC P .add 336 false).f n u) fun v =>
opP ((binC P .sub 3 true).f (nth l 3) (.int .i64 7)) fun w =>
opP (idxPtr 64 1 (nth l 2) w) fun x =>
opW (loadOne x s) fun y z =>
cSame (sameB q s) (idsOf [x]) ∧ (cOut (idsOf [x]) o.next q.next ∧ (opP ((binC P .add 336 false).f v y) fun A =>
opW ((buildSliceC P 103 2).f [(0, (.int .i64 17)), (1, (.int .i64 19))] z) fun B C =>
wCall P n_digest_turn [i, B] C fun D E =>
cSame (sameB C E) (idsOf [x]) ∧ (cSame (sameB C E) (idsOf [m]) ∧ (opP ((binC P .shr 336 true).f i (.int .u64 10)) fun F =>
opP ((binC P .xor 336 false).f D F) fun G =>
opP ((binC P .add 336 false).f A G) fun I =>
opP (idxPtr 64 1 (nth l 2) (nth l 3)) fun J =>
opW (storeTo 1 J I E) fun L M =>
opP ((binC P .add 3 true).f (nth l 3) (.int .i64 1)) fun O =>
N [(nth l 0), (nth l 1), (nth l 2), O] M))))))) (
Qx 0 [(nth l 1), (nth l 2)] H)
theorem digest_spread_L0_eq (l : List Value) (H : Heap) (N : List Value → Heap → Prop) (Qx : Nat → List Value → Heap → Prop) (Qr : List Value → Heap → Prop) : vcC P true 82 digest_spread_P0 (live digest_spread_P0 0 12) 12 (envOf (bits 82 (live digest_spread_P0 0 12)) l) H (loopQ 82 digest_spread_P0 12 N Qx Qr) = digest_spread_L0 l H N Qx Qr := by kernel_rfl
theorem digest_spread_L0_ind (I : Nat → List Value → Heap → Prop) (Qx : Nat → List Value → Heap → Prop) (Qr : List Value → Heap → Prop) (hs : ∀ k l H, I k l H → digest_spread_L0 l H (fun l H => ∃ k', k' < k ∧ I k' l H) Qx Qr) (k : Nat) (l : List Value) (H : Heap) (h : I k l H) : wLoop P true 82 digest_spread_P0 12 l H Qx Qr :=
  loop_ind (by kernel_rfl) I (fun k l H h => (digest_spread_L0_eq l H _ Qx Qr).mpr (hs k l H h)) k l H h
def digest_spread (t0 : Value) (H : Heap) (K : Value → Heap → Prop) : Prop :=
wNew (zc P 427) H fun a b =>
wNew (zc P 427) b fun c d =>
wLoop P true 82 digest_spread_P0 12 [t0, a, c, (.int .i64 0)] d (fun id e f =>
cond (Nat.beq id 0) (
opW (loadAgg 64 (nth e 1) f) fun g h =>
opW (storeTo 64 (nth e 0) g h) fun i j =>
opW (loadAgg 64 (nth e 0) j) fun k _ =>
K k j) (
False)) (fun e f =>
opW (loadAgg 64 (nth e 0) f) fun g _ =>
K g f)
theorem digest_spread_eq (t0 : Value) (H : Heap) (K : Value → Heap → Prop) : vcF P n_digest_spread [t0] H K = digest_spread t0 H K := by kernel_rfl
theorem digest_spread_ok {t0 : Value} {H : Heap} {K : Value → Heap → Prop} (h : digest_spread t0 H K) : wCall P n_digest_spread [t0] H K := wCall_of_vcF rfl ((digest_spread_eq t0 H K).mpr h)
def digest_table (H : Heap) (K : Value → Heap → Prop) : Prop :=
opP ((buildC P 427).f [(0, (.int .u32 1116352408)), (1, (.int .u32 1899447441)), (2, (.int .u32 3049323471)), (3, (.int .u32 3921009573)), (4, (.int .u32 961987163)), (5, (.int .u32 1508970993)), (6, (.int .u32 2453635748)), (7, (.int .u32 2870763221)), (8, (.int .u32 3624381080)), (9, (.int .u32 310598401)), (10, (.int .u32 607225278)), (11, (.int .u32 1426881987)), (12, (.int .u32 1925078388)), (13, (.int .u32 2162078206)), (14, (.int .u32 2614888103)), (15, (.int .u32 3248222580)), (16, (.int .u32 3835390401)), (17, (.int .u32 4022224774)), (18, (.int .u32 264347078)), (19, (.int .u32 604807628)), (20, (.int .u32 770255983)), (21, (.int .u32 1249150122)), (22, (.int .u32 1555081692)), (23, (.int .u32 1996064986)), (24, (.int .u32 2554220882)), (25, (.int .u32 2821834349)), (26, (.int .u32 2952996808)), (27, (.int .u32 3210313671)), (28, (.int .u32 3336571891)), (29, (.int .u32 3584528711)), (30, (.int .u32 113926993)), (31, (.int .u32 338241895)), (32, (.int .u32 666307205)), (33, (.int .u32 773529912)), (34, (.int .u32 1294757372)), (35, (.int .u32 1396182291)), (36, (.int .u32 1695183700)), (37, (.int .u32 1986661051)), (38, (.int .u32 2177026350)), (39, (.int .u32 2456956037)), (40, (.int .u32 2730485921)), (41, (.int .u32 2820302411)), (42, (.int .u32 3259730800)), (43, (.int .u32 3345764771)), (44, (.int .u32 3516065817)), (45, (.int .u32 3600352804)), (46, (.int .u32 4094571909)), (47, (.int .u32 275423344)), (48, (.int .u32 430227734)), (49, (.int .u32 506948616)), (50, (.int .u32 659060556)), (51, (.int .u32 883997877)), (52, (.int .u32 958139571)), (53, (.int .u32 1322822218)), (54, (.int .u32 1537002063)), (55, (.int .u32 1747873779)), (56, (.int .u32 1955562222)), (57, (.int .u32 2024104815)), (58, (.int .u32 2227730452)), (59, (.int .u32 2361852424)), (60, (.int .u32 2428436474)), (61, (.int .u32 2756734187)), (62, (.int .u32 3204031479)), (63, (.int .u32 3329325298))]) fun a =>
wNew (cellsL a) H fun b c =>
K b c
theorem digest_table_eq (H : Heap) (K : Value → Heap → Prop) : vcF P n_digest_table [] H K = digest_table  H K := by kernel_rfl
theorem digest_table_ok {H : Heap} {K : Value → Heap → Prop} (h : digest_table  H K) : wCall P n_digest_table [] H K := wCall_of_vcF rfl ((digest_table_eq  H K).mpr h)
noncomputable abbrev digest_turn_P0 : Code := loopAt P n_digest_turn 0
def digest_turn_L0 (l : List Value) (H : Heap) (N : List Value → Heap → Prop) (Qx : Nat → List Value → Heap → Prop) (Qr : List Value → Heap → Prop) : Prop :=
opP ((binC P .lss 3 false).f (nth l 5) (nth l 4)) fun a =>
wIf a (
opP (idxSl 1 (nth l 3) (nth l 5)) fun b =>
opW (loadOne b H) fun c d =>
opP (unA .neg c) fun e =>
wCall P n_math_bits_RotateLeft32 [(nth l 0), e] d fun f g =>
opP ((binC P .xor 336 false).f (nth l 2) f) fun h =>
opP ((binC P .add 3 true).f (nth l 5) (.int .i64 1)) fun i =>
N [(nth l 0), (nth l 1), h, (nth l 3), (nth l 4), i] g) (
Qx 0 [(nth l 1), (nth l 2)] H)
theorem digest_turn_L0_eq (l : List Value) (H : Heap) (N : List Value → Heap → Prop) (Qx : Nat → List Value → Heap → Prop) (Qr : List Value → Heap → Prop) : vcC P true 22 digest_turn_P0 (live digest_turn_P0 0 48) 48 (envOf (bits 22 (live digest_turn_P0 0 48)) l) H (loopQ 22 digest_turn_P0 48 N Qx Qr) = digest_turn_L0 l H N Qx Qr := by kernel_rfl
theorem digest_turn_L0_ind (I : Nat → List Value → Heap → Prop) (Qx : Nat → List Value → Heap → Prop) (Qr : List Value → Heap → Prop) (hs : ∀ k l H, I k l H → digest_turn_L0 l H (fun l H => ∃ k', k' < k ∧ I k' l H) Qx Qr) (k : Nat) (l : List Value) (H : Heap) (h : I k l H) : wLoop P true 22 digest_turn_P0 48 l H Qx Qr :=
  loop_ind (by kernel_rfl) I (fun k l H h => (digest_turn_L0_eq l H _ Qx Qr).mpr (hs k l H h)) k l H h
def digest_turn (t0 t1 : Value) (H : Heap) (K : Value → Heap → Prop) : Prop :=
opW (lenSl t1 H) fun a b =>
wLoop P true 22 digest_turn_P0 48 [t0, (.int .u32 0), (.int .u32 0), t1, a, (.int .i64 0)] b (fun id c d =>
cond (Nat.beq id 0) (
K (nth c 1) d) (
False)) (fun c d =>
K (nth c 0) d)
theorem digest_turn_eq (t0 t1 : Value) (H : Heap) (K : Value → Heap → Prop) : vcF P n_digest_turn [t0, t1] H K = digest_turn t0 t1 H K := by kernel_rfl
theorem digest_turn_ok {t0 t1 : Value} {H : Heap} {K : Value → Heap → Prop} (h : digest_turn t0 t1 H K) : wCall P n_digest_turn [t0, t1] H K := wCall_of_vcF rfl ((digest_turn_eq t0 t1 H K).mpr h)
def math_bits_RotateLeft32 (t0 t1 : Value) (H : Heap) (K : Value → Heap → Prop) : Prop :=
opW (cvInt .u64 t1 H) fun a b =>
opP ((binC P .and 143 true).f a (.int .u64 31)) fun c =>
opP ((binC P .shl 336 false).f t0 c) fun d =>
opP ((binC P .sub 143 true).f (.int .u64 32) c) fun e =>
opP ((binC P .shr 336 false).f t0 e) fun f =>
opP ((binC P .or 336 false).f d f) fun g =>
K g b
theorem math_bits_RotateLeft32_eq (t0 t1 : Value) (H : Heap) (K : Value → Heap → Prop) : vcF P n_math_bits_RotateLeft32 [t0, t1] H K = math_bits_RotateLeft32 t0 t1 H K := by kernel_rfl
theorem math_bits_RotateLeft32_ok {t0 t1 : Value} {H : Heap} {K : Value → Heap → Prop} (h : math_bits_RotateLeft32 t0 t1 H K) : wCall P n_math_bits_RotateLeft32 [t0, t1] H K := wCall_of_vcF rfl ((math_bits_RotateLeft32_eq t0 t1 H K).mpr h)
noncomputable abbrev crc_step_P0 : Code := loopAt P n_crc_step 0
def crc_step_L0 (l : List Value) (H : Heap) (N : List Value → Heap → Prop) (Qx : Nat → List Value → Heap → Prop) (Qr : List Value → Heap → Prop) : Prop :=
opP ((binC P .lss 3 true).f (nth l 2) (.int .i64 8)) fun a =>
wIf a (
opP ((binC P .shr 336 true).f (nth l 0) (.int .u64 1)) fun b =>
opP ((binC P .and 336 true).f (nth l 0) (.int .u32 1)) fun c =>
opP (unA .neg c) fun d =>
opP ((binC P .and 336 true).f (.int .u32 3988292384) d) fun e =>
opP ((binC P .xor 336 false).f b e) fun f =>
opP ((binC P .add 3 true).f (nth l 2) (.int .i64 1)) fun g =>
N [f, (nth l 1), g] H) (
Qx 0 [(nth l 0), (nth l 1)] H)
theorem crc_step_L0_eq (l : List Value) (H : Heap) (N : List Value → Heap → Prop) (Qx : Nat → List Value → Heap → Prop) (Qr : List Value → Heap → Prop) : vcC P true 14 crc_step_P0 (live crc_step_P0 0 5) 5 (envOf (bits 14 (live crc_step_P0 0 5)) l) H (loopQ 14 crc_step_P0 5 N Qx Qr) = crc_step_L0 l H N Qx Qr := by kernel_rfl
theorem crc_step_L0_ind (I : Nat → List Value → Heap → Prop) (Qx : Nat → List Value → Heap → Prop) (Qr : List Value → Heap → Prop) (hs : ∀ k l H, I k l H → crc_step_L0 l H (fun l H => ∃ k', k' < k ∧ I k' l H) Qx Qr) (k : Nat) (l : List Value) (H : Heap) (h : I k l H) : wLoop P true 14 crc_step_P0 5 l H Qx Qr :=
  loop_ind (by kernel_rfl) I (fun k l H h => (crc_step_L0_eq l H _ Qx Qr).mpr (hs k l H h)) k l H h
def crc_step (t0 : Value) (H : Heap) (K : Value → Heap → Prop) : Prop :=
wLoop P true 14 crc_step_P0 5 [t0, (.int .u32 0), (.int .i64 0)] H (fun id a b =>
cond (Nat.beq id 0) (
K (nth a 0) b) (
False)) (fun a b =>
K (nth a 1) b)
theorem crc_step_eq (t0 : Value) (H : Heap) (K : Value → Heap → Prop) : vcF P n_crc_step [t0] H K = crc_step t0 H K := by kernel_rfl
theorem crc_step_ok {t0 : Value} {H : Heap} {K : Value → Heap → Prop} (h : crc_step t0 H K) : wCall P n_crc_step [t0] H K := wCall_of_vcF rfl ((crc_step_eq t0 H K).mpr h)
end
end J
