/- texts of the proof, one behind the other -/
import Derived.Test.YtnemiikeflojaaaProg
import Derived.KernelRfl
import Derived.Test.YtnemiikeflojaaaAbC
set_option linter.unusedVariables false
set_option maxRecDepth 100000
namespace J
open Go Go.Ab
noncomputable abbrev P : Program := Go.Proofs.Try.prog
noncomputable section
abbrev n_law12_BootSound : Nat := 3
abbrev n_law12_bootAlive : Nat := 4
abbrev n_part_New : Nat := 5
abbrev n_flash_New : Nat := 6
abbrev n_part_Map_Program : Nat := 7
abbrev n_part_Map_All : Nat := 8
abbrev n_ref06_New : Nat := 9
abbrev n_ref07_Program : Nat := 10
abbrev n_ref07_All : Nat := 11
abbrev n_ref02_Sum : Nat := 12
abbrev n_boot_Sound : Nat := 13
abbrev n_ref12_Sound : Nat := 14
abbrev n_flash_Device_Size : Nat := 20
abbrev n_flash_Blank : Nat := 21
abbrev n_part_Map_place : Nat := 22
abbrev n_part_Map_note : Nat := 23
abbrev n_flash_Device_Program : Nat := 24
abbrev n_part_Map_Size : Nat := 25
abbrev n_part_Map_Read : Nat := 26
abbrev n_ref06_within : Nat := 27
abbrev n_ref06_Blank : Nat := 28
abbrev n_ref07_place : Nat := 29
abbrev n_ref06_Program : Nat := 30
abbrev n_ref07_Read : Nat := 31
abbrev n_ref02_first : Nat := 32
abbrev n_ref02_rounds : Nat := 33
abbrev n_ref02_right : Nat := 34
abbrev n_slot_Right : Nat := 35
abbrev n_digest_Sum : Nat := 36
abbrev n_ref10_Right : Nat := 37
abbrev n_part_Map_has : Nat := 46
abbrev n_flash_Device_cell : Nat := 47
abbrev n_flash_Device_step : Nat := 48
abbrev n_flash_Device_set : Nat := 49
abbrev n_flash_Device_Read : Nat := 50
abbrev n_ref06_Read : Nat := 51
abbrev n_ref06_spend : Nat := 52
abbrev n_digest_New : Nat := 53
abbrev n_digest_Digest_Write : Nat := 54
abbrev n_digest_Digest_Sum : Nat := 55
abbrev n_ref06_in : Nat := 59
abbrev n_digest_begin : Nat := 60
abbrev n_digest_words_mix : Nat := 61
abbrev n_digest_Digest_Copy : Nat := 62
abbrev n_digest_spread : Nat := 64
abbrev n_digest_table : Nat := 65
abbrev n_digest_turn : Nat := 66
abbrev n_math_bits_RotateLeft32 : Nat := 67
instance : Orc := orc1 n_law12_bootAlive
theorem law12_bootAlive_spec {H : Heap} {K : Value → Heap → Prop} (hk : K (.bool true) H) : wCall P n_law12_bootAlive [] H K := ⟨1, .ret, _, H, rfl, hk⟩
noncomputable abbrev law12_BootSound_P0 : Code := loopAt P n_law12_BootSound 0
noncomputable abbrev law12_BootSound_P1 : Code := loopAt P n_law12_BootSound 1
noncomputable abbrev law12_BootSound_P2 : Code := loopAt P n_law12_BootSound 2
noncomputable abbrev law12_BootSound_P3 : Code := loopAt P n_law12_BootSound 3
def law12_BootSound_L0 (l : List Value) (H : Heap) (N : List Value → Heap → Prop) (Qx : Nat → List Value → Heap → Prop) (Qr : List Value → Heap → Prop) : Prop :=
opW (lenSl (nth l 0) H) fun t38 H1 =>
opP ((binC P .lss 3 false).f (nth l 6) t38) fun t39 =>
wIf t39 (
opP ((buildC P 37).f []) fun t42 =>
wNew (zc P 37) H1 fun t11 H5 =>
opW (storeTo 64 t11 t42 H5) fun u H7 =>
wLoop P true 139 law12_BootSound_P1 3811 [(nth l 0), (nth l 1), (nth l 2), (nth l 3), (nth l 4), (nth l 5), (nth l 6), t11, (.int .i64 0)] H7 (fun id l_1 H9 =>
cond (Nat.beq id 2) (
opW (loadAgg 64 (nth l_1 7) H9) fun t64 H11 =>
opW ((buildSliceC P 35 1).f [(0, t64)] H11) fun t65 H13 =>
opW (appendWith 64 64 (nth l_1 5) t65 H13) fun t66 H15 =>
opP ((binC P .add 3 true).f (nth l_1 6) (.int .i64 64)) fun t41 =>
N [(nth l_1 0), (nth l_1 1), (nth l_1 2), (nth l_1 3), (nth l_1 4), t66, t41] H15) (
cond (Nat.beq id 1) (
opP ((binC P .add 3 true).f (nth l_1 6) (.int .i64 64)) fun t41_1 =>
N [(nth l_1 0), (nth l_1 1), (nth l_1 2), (nth l_1 3), (nth l_1 4), (nth l_1 5), t41_1] H9) (
Qx id [(nth l_1 1), (nth l_1 2), (nth l_1 3), (nth l_1 4), (nth l_1 5)] H9))) (fun l_1 H9 =>
Qr [(nth l_1 1), (nth l_1 2), (nth l_1 3), (nth l_1 4), (nth l_1 5)] H9)) (
Qx 0 [(nth l 1), (nth l 2), (nth l 3), (nth l 4), (nth l 5)] H1)
theorem law12_BootSound_L0_eq (l : List Value) (H : Heap) (N : List Value → Heap → Prop) (Qx : Nat → List Value → Heap → Prop) (Qr : List Value → Heap → Prop) : vcC P true 139 law12_BootSound_P0 (live law12_BootSound_P0 0 738) 738 (envOf (bits 139 (live law12_BootSound_P0 0 738)) l) H (loopQ 139 law12_BootSound_P0 738 N Qx Qr) = law12_BootSound_L0 l H N Qx Qr := by kernel_rfl
theorem law12_BootSound_L0_ind (I : Nat → List Value → Heap → Prop) (Qx : Nat → List Value → Heap → Prop) (Qr : List Value → Heap → Prop) (hs : ∀ k l H, I k l H → law12_BootSound_L0 l H (fun l H => ∃ k', k' < k ∧ I k' l H) Qx Qr) (k : Nat) (l : List Value) (H : Heap) (h : I k l H) : wLoop P true 139 law12_BootSound_P0 738 l H Qx Qr :=
  loop_ind (by kernel_rfl) I (fun k l H h => (law12_BootSound_L0_eq l H _ Qx Qr).mpr (hs k l H h)) k l H h
def law12_BootSound_L2 (l : List Value) (H : Heap) (N : List Value → Heap → Prop) (Qx : Nat → List Value → Heap → Prop) (Qr : List Value → Heap → Prop) : Prop :=
opP ((binC P .lss 3 false).f (nth l 7) (nth l 6)) fun t73 =>
wIf t73 (
opP (idxSl 64 (nth l 5) (nth l 7)) fun t75 =>
opW (loadAgg 64 t75 H) fun t76 H3 =>
wNew (zc P 37) H3 fun t14 H5 =>
opW (storeTo 64 t14 t76 H5) fun u H7 =>
opW (loadAgg 64 t14 H7) fun t79 H9 =>
wCall P n_part_Map_Program [(nth l 3), (.int .i64 1), (nth l 7), t79] H9 fun t80 H11 =>
opP ((binC P .add 3 true).f (nth l 7) (.int .i64 1)) fun t81 =>
N [(nth l 0), (nth l 1), (nth l 2), (nth l 3), (nth l 4), (nth l 5), (nth l 6), t81] H11) (
Qx 4 [(nth l 0), (nth l 1), (nth l 2), (nth l 3), (nth l 4)] H)
theorem law12_BootSound_L2_eq (l : List Value) (H : Heap) (N : List Value → Heap → Prop) (Qx : Nat → List Value → Heap → Prop) (Qr : List Value → Heap → Prop) : vcC P true 139 law12_BootSound_P2 (live law12_BootSound_P2 0 738) 738 (envOf (bits 139 (live law12_BootSound_P2 0 738)) l) H (loopQ 139 law12_BootSound_P2 738 N Qx Qr) = law12_BootSound_L2 l H N Qx Qr := by kernel_rfl
theorem law12_BootSound_L2_ind (I : Nat → List Value → Heap → Prop) (Qx : Nat → List Value → Heap → Prop) (Qr : List Value → Heap → Prop) (hs : ∀ k l H, I k l H → law12_BootSound_L2 l H (fun l H => ∃ k', k' < k ∧ I k' l H) Qx Qr) (k : Nat) (l : List Value) (H : Heap) (h : I k l H) : wLoop P true 139 law12_BootSound_P2 738 l H Qx Qr :=
  loop_ind (by kernel_rfl) I (fun k l H h => (law12_BootSound_L2_eq l H _ Qx Qr).mpr (hs k l H h)) k l H h
def law12_BootSound_L3 (l : List Value) (H : Heap) (N : List Value → Heap → Prop) (Qx : Nat → List Value → Heap → Prop) (Qr : List Value → Heap → Prop) : Prop :=
opP ((binC P .lss 3 false).f (nth l 8) (nth l 7)) fun t99 =>
wIf t99 (
opP (idxSl 64 (nth l 6) (nth l 8)) fun t101 =>
opW (loadAgg 64 t101 H) fun t102 H3 =>
wNew (zc P 37) H3 fun t20 H5 =>
opW (storeTo 64 t20 t102 H5) fun u H7 =>
opW (loadAgg 64 t20 H7) fun t105 H9 =>
wCall P n_ref07_Program [(nth l 5), (.int .i64 1), (nth l 8), t105] H9 fun t106 H11 =>
opP ((binC P .add 3 true).f (nth l 8) (.int .i64 1)) fun t107 =>
N [(nth l 0), (nth l 1), (nth l 2), (nth l 3), (nth l 4), (nth l 5), (nth l 6), (nth l 7), t107] H11) (
Qx 6 [(nth l 0), (nth l 1), (nth l 2), (nth l 3), (nth l 4), (nth l 5)] H)
theorem law12_BootSound_L3_eq (l : List Value) (H : Heap) (N : List Value → Heap → Prop) (Qx : Nat → List Value → Heap → Prop) (Qr : List Value → Heap → Prop) : vcC P true 139 law12_BootSound_P3 (live law12_BootSound_P3 0 458976) 458976 (envOf (bits 139 (live law12_BootSound_P3 0 458976)) l) H (loopQ 139 law12_BootSound_P3 458976 N Qx Qr) = law12_BootSound_L3 l H N Qx Qr := by kernel_rfl
theorem law12_BootSound_L3_ind (I : Nat → List Value → Heap → Prop) (Qx : Nat → List Value → Heap → Prop) (Qr : List Value → Heap → Prop) (hs : ∀ k l H, I k l H → law12_BootSound_L3 l H (fun l H => ∃ k', k' < k ∧ I k' l H) Qx Qr) (k : Nat) (l : List Value) (H : Heap) (h : I k l H) : wLoop P true 139 law12_BootSound_P3 458976 l H Qx Qr :=
  loop_ind (by kernel_rfl) I (fun k l H h => (law12_BootSound_L3_eq l H _ Qx Qr).mpr (hs k l H h)) k l H h
def law12_BootSound_L1 (l : List Value) (H : Heap) (N : List Value → Heap → Prop) (Qx : Nat → List Value → Heap → Prop) (Qr : List Value → Heap → Prop) : Prop :=
opP ((binC P .lss 3 true).f (nth l 8) (.int .i64 64)) fun t44 =>
wIf t44 (
opP (idxPtr 64 1 (nth l 7) (nth l 8)) fun t47 =>
opW (storeTo 1 t47 (.int .u8 255) H) fun u H3 =>
opP ((binC P .add 3 false).f (nth l 6) (nth l 8)) fun t50 =>
opW (lenSl (nth l 0) H3) fun t52 H6 =>
opP ((binC P .lss 3 false).f t50 t52) fun t53 =>
wIf t53 (
opP ((binC P .add 3 false).f (nth l 6) (nth l 8)) fun t58 =>
opP (idxSl 1 (nth l 0) t58) fun t59 =>
opW (loadOne t59 H6) fun t60 H11 =>
opP (idxPtr 64 1 (nth l 7) (nth l 8)) fun t61 =>
opW (storeTo 1 t61 t60 H11) fun u_1 H14 =>
opP ((binC P .add 3 true).f (nth l 8) (.int .i64 1)) fun t62 =>
N [(nth l 0), (nth l 1), (nth l 2), (nth l 3), (nth l 4), (nth l 5), (nth l 6), (nth l 7), t62] H14) (
opP ((binC P .add 3 true).f (nth l 8) (.int .i64 1)) fun t62_1 =>
N [(nth l 0), (nth l 1), (nth l 2), (nth l 3), (nth l 4), (nth l 5), (nth l 6), (nth l 7), t62_1] H6)) (
Qx 2 [(nth l 0), (nth l 1), (nth l 2), (nth l 3), (nth l 4), (nth l 5), (nth l 6), (nth l 7)] H)
theorem law12_BootSound_L1_eq (l : List Value) (H : Heap) (N : List Value → Heap → Prop) (Qx : Nat → List Value → Heap → Prop) (Qr : List Value → Heap → Prop) : vcC P true 139 law12_BootSound_P1 (live law12_BootSound_P1 0 3811) 3811 (envOf (bits 139 (live law12_BootSound_P1 0 3811)) l) H (loopQ 139 law12_BootSound_P1 3811 N Qx Qr) = law12_BootSound_L1 l H N Qx Qr := by kernel_rfl
theorem law12_BootSound_L1_ind (I : Nat → List Value → Heap → Prop) (Qx : Nat → List Value → Heap → Prop) (Qr : List Value → Heap → Prop) (hs : ∀ k l H, I k l H → law12_BootSound_L1 l H (fun l H => ∃ k', k' < k ∧ I k' l H) Qx Qr) (k : Nat) (l : List Value) (H : Heap) (h : I k l H) : wLoop P true 139 law12_BootSound_P1 3811 l H Qx Qr :=
  loop_ind (by kernel_rfl) I (fun k l H h => (law12_BootSound_L1_eq l H _ Qx Qr).mpr (hs k l H h)) k l H h
def law12_BootSound (t0 t1 t2 : Value) (H : Heap) (K : Value → Heap → Prop) : Prop :=
wNew (cellsL t2) H fun t5 H1 =>
wCall P n_law12_bootAlive [] H1 fun t22 H3 =>
opP (unA .not t22) fun t23 =>
wIf t23 (
K (.bool false) H3) (
opW (lenSl t0 H3) fun t25 H6 =>
opP ((binC P .gtr 3 true).f t25 (.int .i64 600)) fun t26 =>
wIf t26 (
K (.bool true) H6) (
wCall P n_flash_New [(.int .i64 10), (.int .i64 100)] H6 fun t28 H9 =>
opW ((buildSliceC P 43 2).f [(0, (.int .i64 1)), (1, (.int .i64 9))] H9) fun t29 H11 =>
wCall P n_part_New [t28, t29] H11 fun t30 H13 =>
opP (extA 0 t30) fun t31 =>
opP (extA 1 t30) fun t32 =>
opP ((binC P .eql 29 true).f t31 (.pointer none)) fun t34 =>
wIf t34 (
K (.bool false) H13) (
opW ((buildSliceC P 35 0).f [] H13) fun t35 H18 =>
wLoop P true 139 law12_BootSound_P0 738 [t0, t1, t5, (.bool false), t31, t35, (.int .i64 0)] H18 (fun id l H20 =>
cond (Nat.beq id 0) (
opW (lenSl (nth l 4) H20) fun t68 H22 =>
opP ((binC P .gtr 3 true).f t68 (.int .i64 9)) fun t69 =>
wIf t69 (
K (.bool true) H22) (
opW (lenSl (nth l 4) H22) fun t71 H25 =>
wLoop P true 139 law12_BootSound_P2 738 [(nth l 0), (nth l 1), (nth l 2), (nth l 3), (nth l 4), (nth l 4), t71, (.int .i64 0)] H25 (fun id l_1 H27 =>
cond (Nat.beq id 4) (
wCall P n_part_Map_All [(nth l_1 3), (.int .i64 1)] H27 fun t83 H29 =>
opW (lenSl t83 H29) fun t85 H31 =>
opP ((binC P .neq 3 true).f t85 (.int .i64 576)) fun t86 =>
wIf t86 (
K (.bool false) H31) (
opW (withH H31 (minA [(nth l_1 0), (.int .i64 576)])) fun t88 H34 =>
opW (withH H34 (maxA [(.int .i64 1), t88])) fun t89 H36 =>
opP ((buildC P 27).f [(0, (.int .i64 3)), (2, (.int .u64 1)), (3, t89)]) fun t91 =>
wNew (zc P 27) H36 fun t17 H39 =>
opW (storeTo 36 t17 t91 H39) fun u H41 =>
wCall P n_ref06_New [(.int .i64 10), (.int .i64 100)] H41 fun t92 H43 =>
opW ((buildSliceC P 43 2).f [(0, (.int .i64 1)), (1, (.int .i64 9))] H43) fun t93 H45 =>
opP ((buildC P 46).f [(0, t92), (1, t93)]) fun t94 =>
wNew (cellsL t94) H45 fun t95 H48 =>
opW (lenSl (nth l_1 4) H48) fun t97 H50 =>
wLoop P true 139 law12_BootSound_P3 458976 [(nth l_1 1), (nth l_1 2), (nth l_1 3), t89, t17, t95, (nth l_1 4), t97, (.int .i64 0)] H50 (fun id l_2 H52 =>
cond (Nat.beq id 6) (
wCall P n_ref07_All [(nth l_2 5), (.int .i64 1)] H52 fun t109 H54 =>
opP (sliceSl 1 t109 none (some (nth l_2 3)) none) fun t112 =>
wCall P n_ref02_Sum [t112] H54 fun t113 H57 =>
opP (offPtr 4 (nth l_2 4)) fun t114 =>
opW (storeTo 32 t114 t113 H57) fun u_1 H60 =>
opW (loadAgg 36 (nth l_2 0) H60) fun t116 H62 =>
wCall P n_boot_Sound [(nth l_2 2), (.int .i64 1), t116] H62 fun t117 H64 =>
opW (loadAgg 36 (nth l_2 0) H64) fun t119 H66 =>
cSame (sameB H62 H64) (idsOf [(nth l_2 0)]) ∧ (wCall P n_ref12_Sound [t109, t119] H66 fun t120 H68 =>
opP ((binC P .eql 4 false).f t117 t120) fun t121 =>
wIf t121 (
opW (loadAgg 36 (nth l_2 4) H68) fun t124 H71 =>
wCall P n_boot_Sound [(nth l_2 2), (.int .i64 1), t124] H71 fun t125 H73 =>
opP (pickA t121 t125 (.bool false)) fun t126 =>
wIf t126 (
opW (loadAgg 36 (nth l_2 4) H73) fun t129 H76 =>
wCall P n_boot_Sound [(nth l_2 2), (.int .i64 7), t129] H76 fun t130 H78 =>
opP (unA .not t130) fun t131 =>
opP (pickA t126 t131 (.bool false)) fun t132 =>
wIf t132 (
opP ((buildC P 27).f []) fun t135 =>
wCall P n_boot_Sound [(nth l_2 2), (.int .i64 1), t135] H78 fun t136 H83 =>
opP (unA .not t136) fun t137 =>
opP (pickA t132 t137 (.bool false)) fun t138 =>
K t138 H83) (
opP (pickA t132 undef (.bool false)) fun t138_1 =>
K t138_1 H78)) (
opP (pickA t126 undef (.bool false)) fun t132_1 =>
opP (pickA t132_1 undef (.bool false)) fun t138_2 =>
K t138_2 H73)) (
opP (pickA t121 undef (.bool false)) fun t126_1 =>
opP (pickA t126_1 undef (.bool false)) fun t132_2 =>
opP (pickA t132_2 undef (.bool false)) fun t138_3 =>
K t138_3 H68))) (
False)) (fun l_2 H52 =>
K (nth l_2 1) H52))) (
False)) (fun l_1 H27 =>
K (nth l_1 2) H27))) (
False)) (fun l H20 =>
K (nth l 2) H20))))
theorem law12_BootSound_eq (t0 t1 t2 : Value) (H : Heap) (K : Value → Heap → Prop) : vcF P n_law12_BootSound [t0, t1, t2] H K = law12_BootSound t0 t1 t2 H K := by kernel_rfl
theorem law12_BootSound_ok {t0 t1 t2 : Value} {H : Heap} {K : Value → Heap → Prop} (h : law12_BootSound t0 t1 t2 H K) : wCall P n_law12_BootSound [t0, t1, t2] H K := wCall_of_vcF rfl ((law12_BootSound_eq t0 t1 t2 H K).mpr h)
noncomputable abbrev part_New_P0 : Code := loopAt P n_part_New 0
def part_New_L0 (l : List Value) (H : Heap) (N : List Value → Heap → Prop) (Qx : Nat → List Value → Heap → Prop) (Qr : List Value → Heap → Prop) : Prop :=
opP ((binC P .lss 3 false).f (nth l 7) (nth l 6)) fun t24 =>
wIf t24 (
opP (idxSl 1 (nth l 5) (nth l 7)) fun t25 =>
opW (loadOne t25 H) fun t26 H3 =>
wJoin (fun J =>
opP ((binC P .lss 3 true).f t26 (.int .i64 1)) fun t28 =>
wIf t28 (
opP (pickA t28 (.bool true) undef) fun t36 =>
J [(nth l 0), (nth l 1), (nth l 2), (nth l 3), (nth l 4), t26, (nth l 5), (nth l 6), (nth l 7), t36] H3) (
wCall P n_flash_Device_Size [(nth l 0)] H3 fun t32 H8 =>
opP ((binC P .sub 3 false).f t32 (nth l 4)) fun t34 =>
opP ((binC P .gtr 3 false).f t26 t34) fun t35 =>
opP (pickA t28 (.bool true) t35) fun t36_1 =>
J [(nth l 0), (nth l 1), (nth l 2), (nth l 3), (nth l 4), t26, (nth l 5), (nth l 6), (nth l 7), t36_1] H8)) (fun l_1 H13 =>
wIf (nth l_1 9) (
Qr [(.pointer none), (.int .i64 71), (nth l_1 3)] H13) (
opP (nilCheckA (nth l_1 3)) fun t39 =>
opP (offPtr 1 t39) fun t40 =>
opW (loadOne t40 H13) fun t41 H17 =>
opP ((buildC P 70).f [(0, (nth l_1 4)), (1, (nth l_1 5))]) fun t44 =>
opW ((buildSliceC P 65 1).f [(0, t44)] H17) fun t45 H20 =>
opW (appendWith 2 16 t41 t45 H20) fun t46 H22 =>
opP (nilCheckA (nth l_1 3)) fun t47 =>
opP (offPtr 1 t47) fun t48 =>
opW (storeTo 1 t48 t46 H22) fun u H26 =>
opP ((binC P .add 3 false).f (nth l_1 4) (nth l_1 5)) fun t51 =>
opP ((binC P .add 3 true).f (nth l_1 8) (.int .i64 1)) fun t52 =>
N [(nth l_1 0), (nth l_1 1), (nth l_1 2), (nth l_1 3), t51, (nth l_1 6), (nth l_1 7), t52] H26))) (
Qx 0 [(nth l 1), (nth l 2), (nth l 3)] H)
theorem part_New_L0_eq (l : List Value) (H : Heap) (N : List Value → Heap → Prop) (Qx : Nat → List Value → Heap → Prop) (Qr : List Value → Heap → Prop) : vcC P true 54 part_New_P0 (live part_New_P0 0 112) 112 (envOf (bits 54 (live part_New_P0 0 112)) l) H (loopQ 54 part_New_P0 112 N Qx Qr) = part_New_L0 l H N Qx Qr := by kernel_rfl
theorem part_New_L0_ind (I : Nat → List Value → Heap → Prop) (Qx : Nat → List Value → Heap → Prop) (Qr : List Value → Heap → Prop) (hs : ∀ k l H, I k l H → part_New_L0 l H (fun l H => ∃ k', k' < k ∧ I k' l H) Qx Qr) (k : Nat) (l : List Value) (H : Heap) (h : I k l H) : wLoop P true 54 part_New_P0 112 l H Qx Qr :=
  loop_ind (by kernel_rfl) I (fun k l H h => (part_New_L0_eq l H _ Qx Qr).mpr (hs k l H h)) k l H h
def part_New (t0 t1 : Value) (H : Heap) (K : Value → Heap → Prop) : Prop :=
wJoin (fun J =>
opW (lenSl t1 H) fun t11 H2 =>
opP ((binC P .eql 3 true).f t11 (.int .i64 0)) fun t12 =>
wIf t12 (
opP (pickA t12 (.bool true) undef) fun t17 =>
J [t0, t1, (.pointer none), (.int .i64 0), t17] H2) (
opW (lenSl t1 H2) fun t15 H6 =>
opP ((binC P .gtr 3 true).f t15 (.int .i64 16)) fun t16 =>
opP (pickA t12 (.bool true) t16) fun t17_1 =>
J [t0, t1, (.pointer none), (.int .i64 0), t17_1] H6)) (fun l H10 =>
wIf (nth l 4) (
K (.tuple [(.pointer none), (.int .i64 71)].toArray) H10) (
opP ((buildC P 67).f [(0, (nth l 0))]) fun t19 =>
wNew (cellsL t19) H10 fun t20 H13 =>
opW (lenSl (nth l 1) H13) fun t22 H15 =>
wLoop P true 54 part_New_P0 112 [(nth l 0), (nth l 2), (nth l 3), t20, (.int .i64 0), (nth l 1), t22, (.int .i64 0)] H15 (fun id l_1 H17 =>
cond (Nat.beq id 0) (
K (.tuple [(nth l_1 2), (.int .i64 0)].toArray) H17) (
False)) (fun l_1 H17 =>
K (.tuple [(nth l_1 0), (nth l_1 1)].toArray) H17)))
theorem part_New_eq (t0 t1 : Value) (H : Heap) (K : Value → Heap → Prop) : vcF P n_part_New [t0, t1] H K = part_New t0 t1 H K := by kernel_rfl
theorem part_New_ok {t0 t1 : Value} {H : Heap} {K : Value → Heap → Prop} (h : part_New t0 t1 H K) : wCall P n_part_New [t0, t1] H K := wCall_of_vcF rfl ((part_New_eq t0 t1 H K).mpr h)
noncomputable abbrev flash_New_P0 : Code := loopAt P n_flash_New 0
def flash_New_L0 (l : List Value) (H : Heap) (N : List Value → Heap → Prop) (Qx : Nat → List Value → Heap → Prop) (Qr : List Value → Heap → Prop) : Prop :=
opP ((binC P .lss 3 false).f (nth l 3) (nth l 2)) fun t22 =>
wIf t22 (
opP (nilCheckA (nth l 1)) fun t25 =>
opP (offPtr 0 t25) fun t26 =>
opW (loadOne t26 H) fun t27 H4 =>
wCall P n_flash_Blank [] H4 fun t29 H6 =>
cSame (sameB H4 H6) (idsOf [t26]) ∧ (wCall P n_flash_Blank [] H6 fun t30 H8 =>
cSame (sameB H6 H8) (idsOf [t26]) ∧ (opP ((buildC P 77).f [(0, t29), (1, t30)]) fun t31 =>
opP (idxSl 129 t27 (nth l 3)) fun t32 =>
opW (storeTo 129 t32 t31 H8) fun u H12 =>
opP ((binC P .add 3 true).f (nth l 3) (.int .i64 1)) fun t33 =>
N [(nth l 0), (nth l 1), (nth l 2), t33] H12))) (
Qx 0 [(nth l 0), (nth l 1)] H)
theorem flash_New_L0_eq (l : List Value) (H : Heap) (N : List Value → Heap → Prop) (Qx : Nat → List Value → Heap → Prop) (Qr : List Value → Heap → Prop) : vcC P true 35 flash_New_P0 (live flash_New_P0 0 48) 48 (envOf (bits 35 (live flash_New_P0 0 48)) l) H (loopQ 35 flash_New_P0 48 N Qx Qr) = flash_New_L0 l H N Qx Qr := by kernel_rfl
theorem flash_New_L0_ind (I : Nat → List Value → Heap → Prop) (Qx : Nat → List Value → Heap → Prop) (Qr : List Value → Heap → Prop) (hs : ∀ k l H, I k l H → flash_New_L0 l H (fun l H => ∃ k', k' < k ∧ I k' l H) Qx Qr) (k : Nat) (l : List Value) (H : Heap) (h : I k l H) : wLoop P true 35 flash_New_P0 48 l H Qx Qr :=
  loop_ind (by kernel_rfl) I (fun k l H h => (flash_New_L0_eq l H _ Qx Qr).mpr (hs k l H h)) k l H h
def flash_New (t0 t1 : Value) (H : Heap) (K : Value → Heap → Prop) : Prop :=
opW (withH H (minA [t0, (.int .i64 4096)])) fun t8 H1 =>
opW (withH H1 (maxA [(.int .i64 0), t8])) fun t9 H3 =>
opW ((makeSliceC P 71).f t9 t9 H3) fun t10 H5 =>
opW (withH H5 (minA [t1, (.int .i64 100000)])) fun t12 H7 =>
opW (withH H7 (maxA [(.int .i64 0), t12])) fun t13 H9 =>
opP ((buildC P 74).f [(0, t10), (2, t13), (3, (.int .i64 (-1)))]) fun t14 =>
wNew (cellsL t14) H9 fun t15 H12 =>
opP (nilCheckA t15) fun t17 =>
opP (offPtr 0 t17) fun t18 =>
opW (loadOne t18 H12) fun t19 H16 =>
opW (lenSl t19 H16) fun t20 H18 =>
wLoop P true 35 flash_New_P0 48 [(.pointer none), t15, t20, (.int .i64 0)] H18 (fun id l H20 =>
cond (Nat.beq id 0) (
K (nth l 1) H20) (
False)) (fun l H20 =>
K (nth l 0) H20)
theorem flash_New_eq (t0 t1 : Value) (H : Heap) (K : Value → Heap → Prop) : vcF P n_flash_New [t0, t1] H K = flash_New t0 t1 H K := by kernel_rfl
theorem flash_New_ok {t0 t1 : Value} {H : Heap} {K : Value → Heap → Prop} (h : flash_New t0 t1 H K) : wCall P n_flash_New [t0, t1] H K := wCall_of_vcF rfl ((flash_New_eq t0 t1 H K).mpr h)
def part_Map_Program (t0 t1 t2 t3 : Value) (H : Heap) (K : Value → Heap → Prop) : Prop :=
wNew (cellsL t3) H fun t7 H1 =>
wCall P n_part_Map_place [t0, t1, t2] H1 fun t15 H3 =>
opP (extA 0 t15) fun t16 =>
opP (extA 1 t15) fun t17 =>
opP ((binC P .neq 30 true).f t17 (.int .i64 0)) fun t19 =>
wIf t19 (
K t17 H3) (
opP ((buildC P 82).f [(0, (.int .i64 2)), (1, t1), (2, t2)]) fun t24 =>
opP (nilCheckA t0) fun t26 =>
opP (offPtr 0 t26) fun t27 =>
opW (loadOne t27 H3) fun t28 H11 =>
opW (loadAgg 64 t7 H11) fun t30 H13 =>
wCall P n_flash_Device_Program [t28, t16, t30] H13 fun t31 H15 =>
wCall P n_part_Map_note [t0, t24, t31] H15 fun t32 H17 =>
K t32 H17)
theorem part_Map_Program_eq (t0 t1 t2 t3 : Value) (H : Heap) (K : Value → Heap → Prop) : vcF P n_part_Map_Program [t0, t1, t2, t3] H K = part_Map_Program t0 t1 t2 t3 H K := by kernel_rfl
theorem part_Map_Program_ok {t0 t1 t2 t3 : Value} {H : Heap} {K : Value → Heap → Prop} (h : part_Map_Program t0 t1 t2 t3 H K) : wCall P n_part_Map_Program [t0, t1, t2, t3] H K := wCall_of_vcF rfl ((part_Map_Program_eq t0 t1 t2 t3 H K).mpr h)
noncomputable abbrev part_Map_All_P0 : Code := loopAt P n_part_Map_All 0
def part_Map_All_L0 (l : List Value) (H : Heap) (N : List Value → Heap → Prop) (Qx : Nat → List Value → Heap → Prop) (Qr : List Value → Heap → Prop) : Prop :=
opP ((binC P .lss 3 false).f (nth l 5) (nth l 4)) fun t13 =>
wIf t13 (
wCall P n_part_Map_Read [(nth l 0), (nth l 1), (nth l 5)] H fun t19 H2 =>
opP (extA 0 t19) fun t20 =>
opP (extA 1 t19) fun t21 =>
wNew (zc P 37) H2 fun t7 H6 =>
opW (storeTo 64 t7 t20 H6) fun u H8 =>
opP (sliceArr 64 1 t7 none none none H8) fun t23 =>
opW (appendWith 1 1 (nth l 3) t23 H8) fun t24 H11 =>
opP ((binC P .add 3 true).f (nth l 5) (.int .i64 1)) fun t25 =>
N [(nth l 0), (nth l 1), (nth l 2), t24, (nth l 4), t25] H11) (
Qx 0 [(nth l 2), (nth l 3)] H)
theorem part_Map_All_L0_eq (l : List Value) (H : Heap) (N : List Value → Heap → Prop) (Qx : Nat → List Value → Heap → Prop) (Qr : List Value → Heap → Prop) : vcC P true 27 part_Map_All_P0 (live part_Map_All_P0 0 48) 48 (envOf (bits 27 (live part_Map_All_P0 0 48)) l) H (loopQ 27 part_Map_All_P0 48 N Qx Qr) = part_Map_All_L0 l H N Qx Qr := by kernel_rfl
theorem part_Map_All_L0_ind (I : Nat → List Value → Heap → Prop) (Qx : Nat → List Value → Heap → Prop) (Qr : List Value → Heap → Prop) (hs : ∀ k l H, I k l H → part_Map_All_L0 l H (fun l H => ∃ k', k' < k ∧ I k' l H) Qx Qr) (k : Nat) (l : List Value) (H : Heap) (h : I k l H) : wLoop P true 27 part_Map_All_P0 48 l H Qx Qr :=
  loop_ind (by kernel_rfl) I (fun k l H h => (part_Map_All_L0_eq l H _ Qx Qr).mpr (hs k l H h)) k l H h
def part_Map_All (t0 t1 : Value) (H : Heap) (K : Value → Heap → Prop) : Prop :=
wCall P n_part_Map_Size [t0, t1] H fun t11 H1 =>
wLoop P true 27 part_Map_All_P0 48 [t0, t1, (.slice none 0 0), (.slice none 0 0), t11, (.int .i64 0)] H1 (fun id l H3 =>
cond (Nat.beq id 0) (
K (nth l 1) H3) (
False)) (fun l H3 =>
K (nth l 0) H3)
theorem part_Map_All_eq (t0 t1 : Value) (H : Heap) (K : Value → Heap → Prop) : vcF P n_part_Map_All [t0, t1] H K = part_Map_All t0 t1 H K := by kernel_rfl
theorem part_Map_All_ok {t0 t1 : Value} {H : Heap} {K : Value → Heap → Prop} (h : part_Map_All t0 t1 H K) : wCall P n_part_Map_All [t0, t1] H K := wCall_of_vcF rfl ((part_Map_All_eq t0 t1 H K).mpr h)
noncomputable abbrev ref06_New_P0 : Code := loopAt P n_ref06_New 0
def ref06_New_L0 (l : List Value) (H : Heap) (N : List Value → Heap → Prop) (Qx : Nat → List Value → Heap → Prop) (Qr : List Value → Heap → Prop) : Prop :=
opP ((binC P .lss 3 false).f (nth l 3) (nth l 2)) fun t24 =>
wIf t24 (
opP (nilCheckA (nth l 1)) fun t27 =>
opP (offPtr 0 t27) fun t28 =>
opW (loadOne t28 H) fun t29 H4 =>
wCall P n_ref06_Blank [] H4 fun t31 H6 =>
cSame (sameB H4 H6) (idsOf [t28]) ∧ (opP (idxSl 64 t29 (nth l 3)) fun t32 =>
opW (storeTo 64 t32 t31 H6) fun u H9 =>
opP ((binC P .add 3 true).f (nth l 3) (.int .i64 1)) fun t33 =>
N [(nth l 0), (nth l 1), (nth l 2), t33] H9)) (
Qx 0 [(nth l 0), (nth l 1)] H)
theorem ref06_New_L0_eq (l : List Value) (H : Heap) (N : List Value → Heap → Prop) (Qx : Nat → List Value → Heap → Prop) (Qr : List Value → Heap → Prop) : vcC P true 35 ref06_New_P0 (live ref06_New_P0 0 80) 80 (envOf (bits 35 (live ref06_New_P0 0 80)) l) H (loopQ 35 ref06_New_P0 80 N Qx Qr) = ref06_New_L0 l H N Qx Qr := by kernel_rfl
theorem ref06_New_L0_ind (I : Nat → List Value → Heap → Prop) (Qx : Nat → List Value → Heap → Prop) (Qr : List Value → Heap → Prop) (hs : ∀ k l H, I k l H → ref06_New_L0 l H (fun l H => ∃ k', k' < k ∧ I k' l H) Qx Qr) (k : Nat) (l : List Value) (H : Heap) (h : I k l H) : wLoop P true 35 ref06_New_P0 80 l H Qx Qr :=
  loop_ind (by kernel_rfl) I (fun k l H h => (ref06_New_L0_eq l H _ Qx Qr).mpr (hs k l H h)) k l H h
def ref06_New (t0 t1 : Value) (H : Heap) (K : Value → Heap → Prop) : Prop :=
wCall P n_ref06_within [t0, (.int .i64 4096)] H fun t9 H1 =>
opW ((makeSliceC P 35).f t9 t9 H1) fun t11 H3 =>
opW ((makeSliceC P 43).f t9 t9 H3) fun t13 H5 =>
wCall P n_ref06_within [t1, (.int .i64 100000)] (bare H5) fun t15 H7 =>
cBare H7 H5 ∧ (
opP ((buildC P 90).f [(0, t11), (1, t13), (2, t15)]) fun t16 =>
wNew (cellsL t16) H5 fun t17 H10 =>
opP (nilCheckA t17) fun t19 =>
opP (offPtr 0 t19) fun t20 =>
opW (loadOne t20 H10) fun t21 H14 =>
opW (lenSl t21 H14) fun t22 H16 =>
wLoop P true 35 ref06_New_P0 80 [(.pointer none), t17, t22, (.int .i64 0)] H16 (fun id l H18 =>
cond (Nat.beq id 0) (
K (nth l 1) H18) (
False)) (fun l H18 =>
K (nth l 0) H18))
theorem ref06_New_eq (t0 t1 : Value) (H : Heap) (K : Value → Heap → Prop) : vcF P n_ref06_New [t0, t1] H K = ref06_New t0 t1 H K := by kernel_rfl
theorem ref06_New_ok {t0 t1 : Value} {H : Heap} {K : Value → Heap → Prop} (h : ref06_New t0 t1 H K) : wCall P n_ref06_New [t0, t1] H K := wCall_of_vcF rfl ((ref06_New_eq t0 t1 H K).mpr h)
def ref07_Program (t0 t1 t2 t3 : Value) (H : Heap) (K : Value → Heap → Prop) : Prop :=
wNew (cellsL t3) H fun t7 H1 =>
wCall P n_ref07_place [t0, t1, t2] H1 fun t15 H3 =>
opP (extA 0 t15) fun t16 =>
opP (extA 1 t15) fun t17 =>
wJoin (fun J =>
opP ((binC P .eql 3 true).f t17 (.int .i64 0)) fun t19 =>
wIf t19 (
opP (nilCheckA t0) fun t21 =>
opP (offPtr 0 t21) fun t22 =>
opW (loadOne t22 H3) fun t23 H11 =>
opW (loadAgg 64 t7 H11) fun t25 H13 =>
wCall P n_ref06_Program [t23, t16, t25] H13 fun t26 H15 =>
J [t0, t1, t2, t26] H15) (
J [t0, t1, t2, t17] H3)) (fun l H17 =>
opP ((binC P .eql 3 true).f (nth l 3) (.int .i64 0)) fun t28 =>
wIf t28 (
opP (nilCheckA (nth l 0)) fun t31 =>
opP (offPtr 3 t31) fun t32 =>
opW (loadOne t32 H17) fun t33 H22 =>
opP (nilCheckA (nth l 0)) fun t37 =>
opP (offPtr 2 t37) fun t38 =>
opW (loadOne t38 H22) fun t39 H26 =>
opP ((buildC P 82).f [(0, (.int .i64 2)), (1, (nth l 1)), (2, (nth l 2)), (3, t39)]) fun t40 =>
opW ((buildSliceC P 44 1).f [(0, t40)] H26) fun t41 H29 =>
opW (appendWith 4 32 t33 t41 H29) fun t42 H31 =>
opP (nilCheckA (nth l 0)) fun t43 =>
opP (offPtr 3 t43) fun t44 =>
opW (storeTo 1 t44 t42 H31) fun u H35 =>
K (nth l 3) H35) (
K (nth l 3) H17))
theorem ref07_Program_eq (t0 t1 t2 t3 : Value) (H : Heap) (K : Value → Heap → Prop) : vcF P n_ref07_Program [t0, t1, t2, t3] H K = ref07_Program t0 t1 t2 t3 H K := by kernel_rfl
theorem ref07_Program_ok {t0 t1 t2 t3 : Value} {H : Heap} {K : Value → Heap → Prop} (h : ref07_Program t0 t1 t2 t3 H K) : wCall P n_ref07_Program [t0, t1, t2, t3] H K := wCall_of_vcF rfl ((ref07_Program_eq t0 t1 t2 t3 H K).mpr h)
noncomputable abbrev ref07_All_P0 : Code := loopAt P n_ref07_All 0
def ref07_All_L0 (l : List Value) (H : Heap) (N : List Value → Heap → Prop) (Qx : Nat → List Value → Heap → Prop) (Qr : List Value → Heap → Prop) : Prop :=
opP (nilCheckA (nth l 0)) fun t24 =>
opP (offPtr 1 t24) fun t25 =>
opW (loadOne t25 H) fun t26 H3 =>
opP (idxSl 1 t26 (nth l 1)) fun t28 =>
opW (loadOne t28 H3) fun t29 H6 =>
opP ((binC P .lss 3 false).f (nth l 4) t29) fun t30 =>
wIf t30 (
wCall P n_ref07_Read [(nth l 0), (nth l 1), (nth l 4)] H6 fun t37 H9 =>
opP (extA 0 t37) fun t38 =>
opP (extA 1 t37) fun t39 =>
wNew (zc P 37) H9 fun t7 H13 =>
opW (storeTo 64 t7 t38 H13) fun u H15 =>
opP (sliceArr 64 1 t7 none none none H15) fun t41 =>
opW (appendWith 1 1 (nth l 3) t41 H15) fun t42 H18 =>
opP ((binC P .add 3 true).f (nth l 4) (.int .i64 1)) fun t32 =>
N [(nth l 0), (nth l 1), (nth l 2), t42, t32] H18) (
Qx 0 [(nth l 2), (nth l 3)] H6)
theorem ref07_All_L0_eq (l : List Value) (H : Heap) (N : List Value → Heap → Prop) (Qx : Nat → List Value → Heap → Prop) (Qr : List Value → Heap → Prop) : vcC P true 44 ref07_All_P0 (live ref07_All_P0 0 48) 48 (envOf (bits 44 (live ref07_All_P0 0 48)) l) H (loopQ 44 ref07_All_P0 48 N Qx Qr) = ref07_All_L0 l H N Qx Qr := by kernel_rfl
theorem ref07_All_L0_ind (I : Nat → List Value → Heap → Prop) (Qx : Nat → List Value → Heap → Prop) (Qr : List Value → Heap → Prop) (hs : ∀ k l H, I k l H → ref07_All_L0 l H (fun l H => ∃ k', k' < k ∧ I k' l H) Qx Qr) (k : Nat) (l : List Value) (H : Heap) (h : I k l H) : wLoop P true 44 ref07_All_P0 48 l H Qx Qr :=
  loop_ind (by kernel_rfl) I (fun k l H h => (ref07_All_L0_eq l H _ Qx Qr).mpr (hs k l H h)) k l H h
def ref07_All (t0 t1 : Value) (H : Heap) (K : Value → Heap → Prop) : Prop :=
opW ((buildSliceC P 22 0).f [] H) fun t9 H1 =>
wJoin (fun J =>
opP ((binC P .lss 3 true).f t1 (.int .i64 0)) fun t11 =>
wIf t11 (
opP (pickA t11 (.bool true) undef) fun t20 =>
J [t0, t1, (.slice none 0 0), t9, t20] H1) (
opP (nilCheckA t0) fun t15 =>
opP (offPtr 1 t15) fun t16 =>
opW (loadOne t16 H1) fun t17 H8 =>
opW (lenSl t17 H8) fun t18 H10 =>
opP ((binC P .geq 3 false).f t1 t18) fun t19 =>
opP (pickA t11 (.bool true) t19) fun t20_1 =>
J [t0, t1, (.slice none 0 0), t9, t20_1] H10)) (fun l H14 =>
wIf (nth l 4) (
K (nth l 3) H14) (
wLoop P true 44 ref07_All_P0 48 [(nth l 0), (nth l 1), (nth l 2), (nth l 3), (.int .i64 0)] H14 (fun id l_1 H16 =>
cond (Nat.beq id 0) (
K (nth l_1 1) H16) (
False)) (fun l_1 H16 =>
K (nth l_1 0) H16)))
theorem ref07_All_eq (t0 t1 : Value) (H : Heap) (K : Value → Heap → Prop) : vcF P n_ref07_All [t0, t1] H K = ref07_All t0 t1 H K := by kernel_rfl
theorem ref07_All_ok {t0 t1 : Value} {H : Heap} {K : Value → Heap → Prop} (h : ref07_All t0 t1 H K) : wCall P n_ref07_All [t0, t1] H K := wCall_of_vcF rfl ((ref07_All_eq t0 t1 H K).mpr h)
noncomputable abbrev ref02_Sum_P0 : Code := loopAt P n_ref02_Sum 0
noncomputable abbrev ref02_Sum_P1 : Code := loopAt P n_ref02_Sum 1
noncomputable abbrev ref02_Sum_P2 : Code := loopAt P n_ref02_Sum 2
noncomputable abbrev ref02_Sum_P3 : Code := loopAt P n_ref02_Sum 3
noncomputable abbrev ref02_Sum_P4 : Code := loopAt P n_ref02_Sum 4
noncomputable abbrev ref02_Sum_P5 : Code := loopAt P n_ref02_Sum 5
noncomputable abbrev ref02_Sum_P6 : Code := loopAt P n_ref02_Sum 6
noncomputable abbrev ref02_Sum_P7 : Code := loopAt P n_ref02_Sum 7
def ref02_Sum_L0 (l : List Value) (H : Heap) (N : List Value → Heap → Prop) (Qx : Nat → List Value → Heap → Prop) (Qr : List Value → Heap → Prop) : Prop :=
opW (lenSl (nth l 2) H) fun t31 H1 =>
opP ((binC P .rem 3 true).f t31 (.int .i64 64)) fun t32 =>
opP ((binC P .neq 3 true).f t32 (.int .i64 56)) fun t33 =>
wIf t33 (
opW ((buildSliceC P 22 1).f [(0, (.int .u8 0))] H1) fun t35 H5 =>
opW (appendWith 1 1 (nth l 2) t35 H5) fun t36 H7 =>
N [(nth l 0), (nth l 1), t36] H7) (
Qx 0 [(nth l 0), (nth l 1), (nth l 2)] H1)
theorem ref02_Sum_L0_eq (l : List Value) (H : Heap) (N : List Value → Heap → Prop) (Qx : Nat → List Value → Heap → Prop) (Qr : List Value → Heap → Prop) : vcC P true 252 ref02_Sum_P0 (live ref02_Sum_P0 0 13) 13 (envOf (bits 252 (live ref02_Sum_P0 0 13)) l) H (loopQ 252 ref02_Sum_P0 13 N Qx Qr) = ref02_Sum_L0 l H N Qx Qr := by kernel_rfl
theorem ref02_Sum_L0_ind (I : Nat → List Value → Heap → Prop) (Qx : Nat → List Value → Heap → Prop) (Qr : List Value → Heap → Prop) (hs : ∀ k l H, I k l H → ref02_Sum_L0 l H (fun l H => ∃ k', k' < k ∧ I k' l H) Qx Qr) (k : Nat) (l : List Value) (H : Heap) (h : I k l H) : wLoop P true 252 ref02_Sum_P0 13 l H Qx Qr :=
  loop_ind (by kernel_rfl) I (fun k l H h => (ref02_Sum_L0_eq l H _ Qx Qr).mpr (hs k l H h)) k l H h
def ref02_Sum_L1 (l : List Value) (H : Heap) (N : List Value → Heap → Prop) (Qx : Nat → List Value → Heap → Prop) (Qr : List Value → Heap → Prop) : Prop :=
opP ((binC P .lss 3 true).f (nth l 4) (.int .i64 8)) fun t42 =>
wIf t42 (
opP ((binC P .quo 23 false).f (nth l 2) (nth l 3)) fun t48 =>
opP ((binC P .rem 23 true).f t48 (.int .u64 256)) fun t49 =>
opW (cvInt .u8 t49 H) fun t50 H4 =>
opW ((buildSliceC P 22 1).f [(0, t50)] H4) fun t51 H6 =>
opW (appendWith 1 1 (nth l 1) t51 H6) fun t52 H8 =>
opP ((binC P .quo 23 true).f (nth l 3) (.int .u64 256)) fun t54 =>
opP ((binC P .add 3 true).f (nth l 4) (.int .i64 1)) fun t44 =>
N [(nth l 0), t52, (nth l 2), t54, t44] H8) (
Qx 2 [(nth l 0), (nth l 1)] H)
theorem ref02_Sum_L1_eq (l : List Value) (H : Heap) (N : List Value → Heap → Prop) (Qx : Nat → List Value → Heap → Prop) (Qr : List Value → Heap → Prop) : vcC P true 252 ref02_Sum_P1 (live ref02_Sum_P1 0 12) 12 (envOf (bits 252 (live ref02_Sum_P1 0 12)) l) H (loopQ 252 ref02_Sum_P1 12 N Qx Qr) = ref02_Sum_L1 l H N Qx Qr := by kernel_rfl
theorem ref02_Sum_L1_ind (I : Nat → List Value → Heap → Prop) (Qx : Nat → List Value → Heap → Prop) (Qr : List Value → Heap → Prop) (hs : ∀ k l H, I k l H → ref02_Sum_L1 l H (fun l H => ∃ k', k' < k ∧ I k' l H) Qx Qr) (k : Nat) (l : List Value) (H : Heap) (h : I k l H) : wLoop P true 252 ref02_Sum_P1 12 l H Qx Qr :=
  loop_ind (by kernel_rfl) I (fun k l H h => (ref02_Sum_L1_eq l H _ Qx Qr).mpr (hs k l H h)) k l H h
def ref02_Sum_L2 (l : List Value) (H : Heap) (N : List Value → Heap → Prop) (Qx : Nat → List Value → Heap → Prop) (Qr : List Value → Heap → Prop) : Prop :=
opW (lenSl (nth l 1) H) fun t59 H1 =>
opP ((binC P .lss 3 false).f (nth l 4) t59) fun t60 =>
wIf t60 (
opP ((buildC P 98).f []) fun t63 =>
wNew (zc P 98) H1 fun t10 H5 =>
opW (storeTo 64 t10 t63 H5) fun u H7 =>
wLoop P true 252 ref02_Sum_P3 1932 [(nth l 0), (nth l 1), (nth l 2), (nth l 3), (nth l 4), t10, (.int .i64 0)] H7 (fun id l_1 H9 =>
cond (Nat.beq id 6) (
opW (loadAgg 8 (nth l_1 2) H9) fun t129 H11 =>
wNew (zc P 96) H11 fun t15 H13 =>
opW (storeTo 8 t15 t129 H13) fun u_1 H15 =>
wLoop P true 252 ref02_Sum_P5 33676 [(nth l_1 0), (nth l_1 1), (nth l_1 2), (nth l_1 3), (nth l_1 4), (nth l_1 5), t15, (.int .i64 0)] H15 (fun id l_2 H17 =>
cond (Nat.beq id 10) (
wLoop P true 252 ref02_Sum_P6 908 [(nth l_2 0), (nth l_2 1), (nth l_2 2), (nth l_2 3), (nth l_2 4), (nth l_2 5), (.int .i64 0)] H17 (fun id l_3 H19 =>
cond (Nat.beq id 12) (
opP ((binC P .add 3 true).f (nth l_3 4) (.int .i64 64)) fun t62 =>
N [(nth l_3 0), (nth l_3 1), (nth l_3 2), (nth l_3 3), t62] H19) (
cond (Nat.beq id 5) (
opP ((binC P .add 3 true).f (nth l_3 4) (.int .i64 64)) fun t62_1 =>
N [(nth l_3 0), (nth l_3 1), (nth l_3 2), (nth l_3 3), t62_1] H19) (
Qx id [(nth l_3 0), (nth l_3 2)] H19))) (fun l_3 H19 =>
Qr [(nth l_3 0), (nth l_3 2)] H19)) (
cond (Nat.beq id 5) (
opP ((binC P .add 3 true).f (nth l_2 4) (.int .i64 64)) fun t62_2 =>
N [(nth l_2 0), (nth l_2 1), (nth l_2 2), (nth l_2 3), t62_2] H17) (
Qx id [(nth l_2 0), (nth l_2 2)] H17))) (fun l_2 H17 =>
Qr [(nth l_2 0), (nth l_2 2)] H17)) (
cond (Nat.beq id 5) (
opP ((binC P .add 3 true).f (nth l_1 4) (.int .i64 64)) fun t62_3 =>
N [(nth l_1 0), (nth l_1 1), (nth l_1 2), (nth l_1 3), t62_3] H9) (
Qx id [(nth l_1 0), (nth l_1 2)] H9))) (fun l_1 H9 =>
Qr [(nth l_1 0), (nth l_1 2)] H9)) (
Qx 4 [(nth l 0), (nth l 2)] H1)
theorem ref02_Sum_L2_eq (l : List Value) (H : Heap) (N : List Value → Heap → Prop) (Qx : Nat → List Value → Heap → Prop) (Qr : List Value → Heap → Prop) : vcC P true 252 ref02_Sum_P2 (live ref02_Sum_P2 0 132) 132 (envOf (bits 252 (live ref02_Sum_P2 0 132)) l) H (loopQ 252 ref02_Sum_P2 132 N Qx Qr) = ref02_Sum_L2 l H N Qx Qr := by kernel_rfl
theorem ref02_Sum_L2_ind (I : Nat → List Value → Heap → Prop) (Qx : Nat → List Value → Heap → Prop) (Qr : List Value → Heap → Prop) (hs : ∀ k l H, I k l H → ref02_Sum_L2 l H (fun l H => ∃ k', k' < k ∧ I k' l H) Qx Qr) (k : Nat) (l : List Value) (H : Heap) (h : I k l H) : wLoop P true 252 ref02_Sum_P2 132 l H Qx Qr :=
  loop_ind (by kernel_rfl) I (fun k l H h => (ref02_Sum_L2_eq l H _ Qx Qr).mpr (hs k l H h)) k l H h
def ref02_Sum_L7 (l : List Value) (H : Heap) (N : List Value → Heap → Prop) (Qx : Nat → List Value → Heap → Prop) (Qr : List Value → Heap → Prop) : Prop :=
opP ((binC P .lss 3 true).f (nth l 3) (.int .i64 32)) fun t235 =>
wIf t235 (
opP ((binC P .quo 3 true).f (nth l 3) (.int .i64 4)) fun t239 =>
opP (idxPtr 8 1 (nth l 1) t239) fun t240 =>
opW (loadOne t240 H) fun t241 H4 =>
opP ((binC P .rem 3 true).f (nth l 3) (.int .i64 4)) fun t243 =>
opP ((binC P .mul 3 true).f (.int .i64 8) t243) fun t244 =>
opP ((binC P .sub 3 true).f (.int .i64 24) t244) fun t245 =>
opP ((binC P .shr 23 false).f t241 t245) fun t246 =>
opP ((binC P .rem 23 true).f t246 (.int .u64 256)) fun t247 =>
opW (cvInt .u8 t247 H4) fun t248 H11 =>
opP (idxPtr 32 1 (nth l 2) (nth l 3)) fun t249 =>
opW (storeTo 1 t249 t248 H11) fun u H14 =>
opP ((binC P .add 3 true).f (nth l 3) (.int .i64 1)) fun t250 =>
N [(nth l 0), (nth l 1), (nth l 2), t250] H14) (
Qx 14 [(nth l 0), (nth l 2)] H)
theorem ref02_Sum_L7_eq (l : List Value) (H : Heap) (N : List Value → Heap → Prop) (Qx : Nat → List Value → Heap → Prop) (Qr : List Value → Heap → Prop) : vcC P true 252 ref02_Sum_P7 (live ref02_Sum_P7 0 8388612) 8388612 (envOf (bits 252 (live ref02_Sum_P7 0 8388612)) l) H (loopQ 252 ref02_Sum_P7 8388612 N Qx Qr) = ref02_Sum_L7 l H N Qx Qr := by kernel_rfl
theorem ref02_Sum_L7_ind (I : Nat → List Value → Heap → Prop) (Qx : Nat → List Value → Heap → Prop) (Qr : List Value → Heap → Prop) (hs : ∀ k l H, I k l H → ref02_Sum_L7 l H (fun l H => ∃ k', k' < k ∧ I k' l H) Qx Qr) (k : Nat) (l : List Value) (H : Heap) (h : I k l H) : wLoop P true 252 ref02_Sum_P7 8388612 l H Qx Qr :=
  loop_ind (by kernel_rfl) I (fun k l H h => (ref02_Sum_L7_eq l H _ Qx Qr).mpr (hs k l H h)) k l H h
def ref02_Sum_L3 (l : List Value) (H : Heap) (N : List Value → Heap → Prop) (Qx : Nat → List Value → Heap → Prop) (Qr : List Value → Heap → Prop) : Prop :=
opP ((binC P .lss 3 true).f (nth l 6) (.int .i64 64)) fun t65 =>
wIf t65 (
opP ((binC P .lss 3 true).f (nth l 6) (.int .i64 16)) fun t69 =>
wIf t69 (
wLoop P true 252 ref02_Sum_P4 3980 [(nth l 0), (nth l 1), (nth l 2), (nth l 3), (nth l 4), (nth l 5), (nth l 6), (.int .i64 0)] H (fun id l_1 H3 =>
cond (Nat.beq id 8) (
opP ((binC P .add 3 true).f (nth l_1 6) (.int .i64 1)) fun t67 =>
N [(nth l_1 0), (nth l_1 1), (nth l_1 2), (nth l_1 3), (nth l_1 4), (nth l_1 5), t67] H3) (
cond (Nat.beq id 7) (
opP ((binC P .add 3 true).f (nth l_1 6) (.int .i64 1)) fun t67_1 =>
N [(nth l_1 0), (nth l_1 1), (nth l_1 2), (nth l_1 3), (nth l_1 4), (nth l_1 5), t67_1] H3) (
Qx id [(nth l_1 0), (nth l_1 1), (nth l_1 2), (nth l_1 3), (nth l_1 4), (nth l_1 5)] H3))) (fun l_1 H3 =>
Qr [(nth l_1 0), (nth l_1 1), (nth l_1 2), (nth l_1 3), (nth l_1 4), (nth l_1 5)] H3)) (
opP ((binC P .sub 3 true).f (nth l 6) (.int .i64 15)) fun t92 =>
opP (idxPtr 64 1 (nth l 5) t92) fun t93 =>
opW (loadOne t93 H) fun t94 H9 =>
opP ((binC P .sub 3 true).f (nth l 6) (.int .i64 2)) fun t96 =>
opP (idxPtr 64 1 (nth l 5) t96) fun t97 =>
opW (loadOne t97 H9) fun t98 H13 =>
opP ((binC P .sub 3 true).f (nth l 6) (.int .i64 16)) fun t101 =>
opP (idxPtr 64 1 (nth l 5) t101) fun t102 =>
opW (loadOne t102 H13) fun t103 H17 =>
wCall P n_ref02_right [t94, (.int .u64 7)] H17 fun t105 H19 =>
cSame (sameB H17 H19) (idsOf [t102]) ∧ (wCall P n_ref02_right [t94, (.int .u64 18)] H19 fun t107 H21 =>
cSame (sameB H19 H21) (idsOf [t102]) ∧ (opP ((binC P .xor 23 false).f t105 t107) fun t108 =>
opP ((binC P .shr 23 true).f t94 (.int .u64 3)) fun t110 =>
opP ((binC P .xor 23 false).f t108 t110) fun t111 =>
opP ((binC P .add 23 false).f t103 t111) fun t112 =>
opP ((binC P .sub 3 true).f (nth l 6) (.int .i64 7)) fun t114 =>
opP (idxPtr 64 1 (nth l 5) t114) fun t115 =>
opW (loadOne t115 H21) fun t116 H29 =>
cSame (sameB H19 H21) (idsOf [t115]) ∧ (cSame (sameB H17 H19) (idsOf [t115]) ∧ (opP ((binC P .add 23 false).f t112 t116) fun t117 =>
wCall P n_ref02_right [t98, (.int .u64 17)] H29 fun t119 H32 =>
cSame (sameB H29 H32) (idsOf [t115]) ∧ (cSame (sameB H29 H32) (idsOf [t102]) ∧ (wCall P n_ref02_right [t98, (.int .u64 19)] H32 fun t121 H34 =>
cSame (sameB H32 H34) (idsOf [t115]) ∧ (cSame (sameB H32 H34) (idsOf [t102]) ∧ (opP ((binC P .xor 23 false).f t119 t121) fun t122 =>
opP ((binC P .shr 23 true).f t98 (.int .u64 10)) fun t124 =>
opP ((binC P .xor 23 false).f t122 t124) fun t125 =>
opP ((binC P .add 23 false).f t117 t125) fun t126 =>
opP ((binC P .rem 23 true).f t126 (.int .u64 4294967296)) fun t127 =>
opP (idxPtr 64 1 (nth l 5) (nth l 6)) fun t128 =>
opW (storeTo 1 t128 t127 H34) fun u H42 =>
opP ((binC P .add 3 true).f (nth l 6) (.int .i64 1)) fun t67_2 =>
N [(nth l 0), (nth l 1), (nth l 2), (nth l 3), (nth l 4), (nth l 5), t67_2] H42)))))))))) (
Qx 6 [(nth l 0), (nth l 1), (nth l 2), (nth l 3), (nth l 4), (nth l 5)] H)
theorem ref02_Sum_L3_eq (l : List Value) (H : Heap) (N : List Value → Heap → Prop) (Qx : Nat → List Value → Heap → Prop) (Qr : List Value → Heap → Prop) : vcC P true 252 ref02_Sum_P3 (live ref02_Sum_P3 0 1932) 1932 (envOf (bits 252 (live ref02_Sum_P3 0 1932)) l) H (loopQ 252 ref02_Sum_P3 1932 N Qx Qr) = ref02_Sum_L3 l H N Qx Qr := by kernel_rfl
theorem ref02_Sum_L3_ind (I : Nat → List Value → Heap → Prop) (Qx : Nat → List Value → Heap → Prop) (Qr : List Value → Heap → Prop) (hs : ∀ k l H, I k l H → ref02_Sum_L3 l H (fun l H => ∃ k', k' < k ∧ I k' l H) Qx Qr) (k : Nat) (l : List Value) (H : Heap) (h : I k l H) : wLoop P true 252 ref02_Sum_P3 1932 l H Qx Qr :=
  loop_ind (by kernel_rfl) I (fun k l H h => (ref02_Sum_L3_eq l H _ Qx Qr).mpr (hs k l H h)) k l H h
def ref02_Sum_L5 (l : List Value) (H : Heap) (N : List Value → Heap → Prop) (Qx : Nat → List Value → Heap → Prop) (Qr : List Value → Heap → Prop) : Prop :=
opP ((binC P .lss 3 true).f (nth l 7) (.int .i64 64)) fun t131 =>
wIf t131 (
opP (idxPtr 8 1 (nth l 6) (.int .i64 4)) fun t134 =>
opW (loadOne t134 H) fun t135 H3 =>
opP (idxPtr 8 1 (nth l 6) (.int .i64 5)) fun t137 =>
opW (loadOne t137 H3) fun t138 H6 =>
opP ((binC P .and 23 false).f t135 t138) fun t139 =>
opP ((binC P .sub 23 true).f (.int .u64 4294967295) t135) fun t141 =>
opP (idxPtr 8 1 (nth l 6) (.int .i64 6)) fun t142 =>
opW (loadOne t142 H6) fun t143 H11 =>
opP ((binC P .and 23 false).f t141 t143) fun t144 =>
opP ((binC P .xor 23 false).f t139 t144) fun t145 =>
opP (idxPtr 8 1 (nth l 6) (.int .i64 7)) fun t146 =>
opW (loadOne t146 H11) fun t147 H16 =>
wCall P n_ref02_right [t135, (.int .u64 6)] H16 fun t149 H18 =>
cSame (sameB H16 H18) (idsOf [t146]) ∧ (wCall P n_ref02_right [t135, (.int .u64 11)] H18 fun t151 H20 =>
cSame (sameB H18 H20) (idsOf [t146]) ∧ (opP ((binC P .xor 23 false).f t149 t151) fun t152 =>
wCall P n_ref02_right [t135, (.int .u64 25)] H20 fun t154 H23 =>
cSame (sameB H20 H23) (idsOf [t146]) ∧ (opP ((binC P .xor 23 false).f t152 t154) fun t155 =>
opP ((binC P .add 23 false).f t147 t155) fun t156 =>
opP ((binC P .add 23 false).f t156 t145) fun t158 =>
opP (idxPtr 64 1 (nth l 3) (nth l 7)) fun t160 =>
opW (loadOne t160 H23) fun t161 H29 =>
cSame (sameB H20 H23) (idsOf [t160]) ∧ (cSame (sameB H18 H20) (idsOf [t160]) ∧ (cSame (sameB H16 H18) (idsOf [t160]) ∧ (opP ((binC P .add 23 false).f t158 t161) fun t162 =>
opP (idxPtr 64 1 (nth l 5) (nth l 7)) fun t164 =>
opW (loadOne t164 H29) fun t165 H33 =>
cSame (sameB H20 H23) (idsOf [t164]) ∧ (cSame (sameB H18 H20) (idsOf [t164]) ∧ (cSame (sameB H16 H18) (idsOf [t164]) ∧ (opP ((binC P .add 23 false).f t162 t165) fun t166 =>
opP (idxPtr 8 1 (nth l 6) (.int .i64 0)) fun t167 =>
opW (loadOne t167 H33) fun t168 H37 =>
opP (idxPtr 8 1 (nth l 6) (.int .i64 1)) fun t169 =>
opW (loadOne t169 H37) fun t170 H40 =>
opP ((binC P .and 23 false).f t168 t170) fun t171 =>
opP (idxPtr 8 1 (nth l 6) (.int .i64 0)) fun t172 =>
opW (loadOne t172 H40) fun t173 H44 =>
opP (idxPtr 8 1 (nth l 6) (.int .i64 2)) fun t174 =>
opW (loadOne t174 H44) fun t175 H47 =>
opP ((binC P .and 23 false).f t173 t175) fun t176 =>
opP ((binC P .xor 23 false).f t171 t176) fun t177 =>
opP (idxPtr 8 1 (nth l 6) (.int .i64 1)) fun t178 =>
opW (loadOne t178 H47) fun t179 H52 =>
opP (idxPtr 8 1 (nth l 6) (.int .i64 2)) fun t180 =>
opW (loadOne t180 H52) fun t181 H55 =>
opP ((binC P .and 23 false).f t179 t181) fun t182 =>
opP ((binC P .xor 23 false).f t177 t182) fun t183 =>
opP (idxPtr 8 1 (nth l 6) (.int .i64 0)) fun t184 =>
opW (loadOne t184 H55) fun t185 H60 =>
wCall P n_ref02_right [t185, (.int .u64 2)] H60 fun t186 H62 =>
opP (idxPtr 8 1 (nth l 6) (.int .i64 0)) fun t187 =>
opW (loadOne t187 H62) fun t188 H65 =>
cSame (sameB H60 H62) (idsOf [t187]) ∧ (wCall P n_ref02_right [t188, (.int .u64 13)] H65 fun t189 H67 =>
opP ((binC P .xor 23 false).f t186 t189) fun t190 =>
opP (idxPtr 8 1 (nth l 6) (.int .i64 0)) fun t191 =>
opW (loadOne t191 H67) fun t192 H71 =>
cSame (sameB H65 H67) (idsOf [t191]) ∧ (cSame (sameB H60 H62) (idsOf [t191]) ∧ (wCall P n_ref02_right [t192, (.int .u64 22)] H71 fun t193 H73 =>
opP ((binC P .xor 23 false).f t190 t193) fun t194 =>
opP ((binC P .add 23 false).f t194 t183) fun t196 =>
opP ((binC P .add 23 false).f t166 t196) fun t199 =>
opP ((binC P .rem 23 true).f t199 (.int .u64 4294967296)) fun t200 =>
opP (idxPtr 8 1 (nth l 6) (.int .i64 0)) fun t201 =>
opW (loadOne t201 H73) fun t202 H80 =>
opP (idxPtr 8 1 (nth l 6) (.int .i64 1)) fun t203 =>
opW (loadOne t203 H80) fun t204 H83 =>
opP (idxPtr 8 1 (nth l 6) (.int .i64 2)) fun t205 =>
opW (loadOne t205 H83) fun t206 H86 =>
opP (idxPtr 8 1 (nth l 6) (.int .i64 3)) fun t207 =>
opW (loadOne t207 H86) fun t208 H89 =>
opP ((binC P .add 23 false).f t208 t166) fun t210 =>
opP ((binC P .rem 23 true).f t210 (.int .u64 4294967296)) fun t211 =>
opP (idxPtr 8 1 (nth l 6) (.int .i64 4)) fun t212 =>
opW (loadOne t212 H89) fun t213 H94 =>
opP (idxPtr 8 1 (nth l 6) (.int .i64 5)) fun t214 =>
opW (loadOne t214 H94) fun t215 H97 =>
opP (idxPtr 8 1 (nth l 6) (.int .i64 6)) fun t216 =>
opW (loadOne t216 H97) fun t217 H100 =>
opP ((buildC P 96).f [(0, t200), (1, t202), (2, t204), (3, t206), (4, t211), (5, t213), (6, t215), (7, t217)]) fun t218 =>
opW (storeTo 8 (nth l 6) t218 H100) fun u H103 =>
opP ((binC P .add 3 true).f (nth l 7) (.int .i64 1)) fun t133 =>
N [(nth l 0), (nth l 1), (nth l 2), (nth l 3), (nth l 4), (nth l 5), (nth l 6), t133] H103))))))))))))) (
Qx 10 [(nth l 0), (nth l 1), (nth l 2), (nth l 3), (nth l 4), (nth l 6)] H)
theorem ref02_Sum_L5_eq (l : List Value) (H : Heap) (N : List Value → Heap → Prop) (Qx : Nat → List Value → Heap → Prop) (Qr : List Value → Heap → Prop) : vcC P true 252 ref02_Sum_P5 (live ref02_Sum_P5 0 33676) 33676 (envOf (bits 252 (live ref02_Sum_P5 0 33676)) l) H (loopQ 252 ref02_Sum_P5 33676 N Qx Qr) = ref02_Sum_L5 l H N Qx Qr := by kernel_rfl
theorem ref02_Sum_L5_ind (I : Nat → List Value → Heap → Prop) (Qx : Nat → List Value → Heap → Prop) (Qr : List Value → Heap → Prop) (hs : ∀ k l H, I k l H → ref02_Sum_L5 l H (fun l H => ∃ k', k' < k ∧ I k' l H) Qx Qr) (k : Nat) (l : List Value) (H : Heap) (h : I k l H) : wLoop P true 252 ref02_Sum_P5 33676 l H Qx Qr :=
  loop_ind (by kernel_rfl) I (fun k l H h => (ref02_Sum_L5_eq l H _ Qx Qr).mpr (hs k l H h)) k l H h
def ref02_Sum_L6 (l : List Value) (H : Heap) (N : List Value → Heap → Prop) (Qx : Nat → List Value → Heap → Prop) (Qr : List Value → Heap → Prop) : Prop :=
opP ((binC P .lss 3 true).f (nth l 6) (.int .i64 8)) fun t220 =>
wIf t220 (
opP (idxPtr 8 1 (nth l 2) (nth l 6)) fun t224 =>
opW (loadOne t224 H) fun t225 H3 =>
opP (idxPtr 8 1 (nth l 5) (nth l 6)) fun t227 =>
opW (loadOne t227 H3) fun t228 H6 =>
opP ((binC P .add 23 false).f t225 t228) fun t229 =>
opP ((binC P .rem 23 true).f t229 (.int .u64 4294967296)) fun t230 =>
opP (idxPtr 8 1 (nth l 2) (nth l 6)) fun t231 =>
opW (storeTo 1 t231 t230 H6) fun u H11 =>
opP ((binC P .add 3 true).f (nth l 6) (.int .i64 1)) fun t232 =>
N [(nth l 0), (nth l 1), (nth l 2), (nth l 3), (nth l 4), (nth l 5), t232] H11) (
Qx 12 [(nth l 0), (nth l 1), (nth l 2), (nth l 3), (nth l 4)] H)
theorem ref02_Sum_L6_eq (l : List Value) (H : Heap) (N : List Value → Heap → Prop) (Qx : Nat → List Value → Heap → Prop) (Qr : List Value → Heap → Prop) : vcC P true 252 ref02_Sum_P6 (live ref02_Sum_P6 0 908) 908 (envOf (bits 252 (live ref02_Sum_P6 0 908)) l) H (loopQ 252 ref02_Sum_P6 908 N Qx Qr) = ref02_Sum_L6 l H N Qx Qr := by kernel_rfl
theorem ref02_Sum_L6_ind (I : Nat → List Value → Heap → Prop) (Qx : Nat → List Value → Heap → Prop) (Qr : List Value → Heap → Prop) (hs : ∀ k l H, I k l H → ref02_Sum_L6 l H (fun l H => ∃ k', k' < k ∧ I k' l H) Qx Qr) (k : Nat) (l : List Value) (H : Heap) (h : I k l H) : wLoop P true 252 ref02_Sum_P6 908 l H Qx Qr :=
  loop_ind (by kernel_rfl) I (fun k l H h => (ref02_Sum_L6_eq l H _ Qx Qr).mpr (hs k l H h)) k l H h
def ref02_Sum_L4 (l : List Value) (H : Heap) (N : List Value → Heap → Prop) (Qx : Nat → List Value → Heap → Prop) (Qr : List Value → Heap → Prop) : Prop :=
opP ((binC P .lss 3 true).f (nth l 7) (.int .i64 4)) fun t71 =>
wIf t71 (
opP (idxPtr 64 1 (nth l 5) (nth l 6)) fun t76 =>
opW (loadOne t76 H) fun t77 H3 =>
opP ((binC P .mul 23 true).f (.int .u64 256) t77) fun t78 =>
opP ((binC P .mul 3 true).f (.int .i64 4) (nth l 6)) fun t82 =>
opP ((binC P .add 3 false).f (nth l 4) t82) fun t83 =>
opP ((binC P .add 3 false).f t83 (nth l 7)) fun t85 =>
opP (idxSl 1 (nth l 1) t85) fun t86 =>
opW (loadOne t86 H3) fun t87 H10 =>
opW (cvInt .u64 t87 H10) fun t88 H12 =>
opP ((binC P .add 23 false).f t78 t88) fun t89 =>
opP (idxPtr 64 1 (nth l 5) (nth l 6)) fun t90 =>
opW (storeTo 1 t90 t89 H12) fun u H16 =>
opP ((binC P .add 3 true).f (nth l 7) (.int .i64 1)) fun t73 =>
N [(nth l 0), (nth l 1), (nth l 2), (nth l 3), (nth l 4), (nth l 5), (nth l 6), t73] H16) (
Qx 8 [(nth l 0), (nth l 1), (nth l 2), (nth l 3), (nth l 4), (nth l 5), (nth l 6)] H)
theorem ref02_Sum_L4_eq (l : List Value) (H : Heap) (N : List Value → Heap → Prop) (Qx : Nat → List Value → Heap → Prop) (Qr : List Value → Heap → Prop) : vcC P true 252 ref02_Sum_P4 (live ref02_Sum_P4 0 3980) 3980 (envOf (bits 252 (live ref02_Sum_P4 0 3980)) l) H (loopQ 252 ref02_Sum_P4 3980 N Qx Qr) = ref02_Sum_L4 l H N Qx Qr := by kernel_rfl
theorem ref02_Sum_L4_ind (I : Nat → List Value → Heap → Prop) (Qx : Nat → List Value → Heap → Prop) (Qr : List Value → Heap → Prop) (hs : ∀ k l H, I k l H → ref02_Sum_L4 l H (fun l H => ∃ k', k' < k ∧ I k' l H) Qx Qr) (k : Nat) (l : List Value) (H : Heap) (h : I k l H) : wLoop P true 252 ref02_Sum_P4 3980 l H Qx Qr :=
  loop_ind (by kernel_rfl) I (fun k l H h => (ref02_Sum_L4_eq l H _ Qx Qr).mpr (hs k l H h)) k l H h
def ref02_Sum (t0 : Value) (H : Heap) (K : Value → Heap → Prop) : Prop :=
wNew (zc P 25) H fun t2 H1 =>
opW ((buildSliceC P 22 0).f [] H1) fun t25 H3 =>
opW (appendWith 1 1 t25 t0 H3) fun t27 H5 =>
opW ((buildSliceC P 22 1).f [(0, (.int .u8 128))] H5) fun t28 H7 =>
opW (appendWith 1 1 t27 t28 H7) fun t29 H9 =>
wLoop P true 252 ref02_Sum_P0 13 [t0, t2, t29] H9 (fun id l H11 =>
cond (Nat.beq id 0) (
opW (lenSl (nth l 0) H11) fun t38 H13 =>
opW (cvInt .u64 t38 H13) fun t39 H15 =>
opP ((binC P .mul 23 true).f t39 (.int .u64 8)) fun t40 =>
wLoop P true 252 ref02_Sum_P1 12 [(nth l 1), (nth l 2), t40, (.int .u64 72057594037927936), (.int .i64 0)] H15 (fun id l_1 H18 =>
cond (Nat.beq id 2) (
wCall P n_ref02_first [] H18 fun t55 H20 =>
wCall P n_ref02_rounds [] H20 fun t56 H22 =>
wNew (zc P 96) H22 fun t7 H24 =>
wNew (zc P 98) H24 fun t8 H26 =>
opW (storeTo 8 t7 t55 H26) fun u H28 =>
opW (storeTo 64 t8 t56 H28) fun u_1 H30 =>
wLoop P true 252 ref02_Sum_P2 132 [(nth l_1 0), (nth l_1 1), t7, t8, (.int .i64 0)] H30 (fun id l_2 H32 =>
cond (Nat.beq id 4) (
opP ((buildC P 25).f []) fun t233 =>
wNew (zc P 25) H32 fun t23 H35 =>
opW (storeTo 32 t23 t233 H35) fun u_2 H37 =>
wLoop P true 252 ref02_Sum_P7 8388612 [(nth l_2 0), (nth l_2 1), t23, (.int .i64 0)] H37 (fun id l_3 H39 =>
cond (Nat.beq id 14) (
opW (loadAgg 32 (nth l_3 1) H39) fun t251 H41 =>
opW (storeTo 32 (nth l_3 0) t251 H41) fun u_3 H43 =>
opW (loadAgg 32 (nth l_3 0) H43) fun r _ =>
K r H43) (
False)) (fun l_3 H39 =>
opW (loadAgg 32 (nth l_3 0) H39) fun r_1 _ =>
K r_1 H39)) (
False)) (fun l_2 H32 =>
opW (loadAgg 32 (nth l_2 0) H32) fun r_2 _ =>
K r_2 H32)) (
False)) (fun l_1 H18 =>
opW (loadAgg 32 (nth l_1 0) H18) fun r_3 _ =>
K r_3 H18)) (
False)) (fun l H11 =>
opW (loadAgg 32 (nth l 1) H11) fun r_4 _ =>
K r_4 H11)
theorem ref02_Sum_eq (t0 : Value) (H : Heap) (K : Value → Heap → Prop) : vcF P n_ref02_Sum [t0] H K = ref02_Sum t0 H K := by kernel_rfl
theorem ref02_Sum_ok {t0 : Value} {H : Heap} {K : Value → Heap → Prop} (h : ref02_Sum t0 H K) : wCall P n_ref02_Sum [t0] H K := wCall_of_vcF rfl ((ref02_Sum_eq t0 H K).mpr h)
def boot_Sound (t0 t1 t2 : Value) (H : Heap) (K : Value → Heap → Prop) : Prop :=
wNew (cellsL t2) H fun t5 H1 =>
wJoin (fun J =>
opW (loadAgg 36 t5 H1) fun t8 H4 =>
wCall P n_slot_Right [t8] H4 fun t9 H6 =>
opP (unA .not t9) fun t10 =>
wIf t10 (
opP (pickA t10 (.bool true) undef) fun t20 =>
wIf t20 (
K (.bool false) H6) (
J [t0, t1, t5] H6)) (
opP (offPtr 0 t5) fun t12 =>
opW (loadOne t12 H6) fun t13 H11 =>
opP ((binC P .neq 3 true).f t13 (.int .i64 2)) fun t14 =>
wIf t14 (
opP (offPtr 0 t5) fun t16 =>
opW (loadOne t16 H11) fun t17 H15 =>
opP ((binC P .neq 3 true).f t17 (.int .i64 3)) fun t18 =>
opP (pickA t14 t18 (.bool false)) fun t19 =>
opP (pickA t10 (.bool true) t19) fun t20_1 =>
wIf t20_1 (
K (.bool false) H15) (
J [t0, t1, t5] H15)) (
opP (pickA t14 undef (.bool false)) fun t19_1 =>
opP (pickA t10 (.bool true) t19_1) fun t20_2 =>
wIf t20_2 (
K (.bool false) H11) (
J [t0, t1, t5] H11)))) (fun l H22 =>
wCall P n_part_Map_All [(nth l 0), (nth l 1)] H22 fun t23 H24 =>
opW (lenSl t23 H24) fun t25 H26 =>
opP (offPtr 3 (nth l 2)) fun t26 =>
opW (loadOne t26 H26) fun t27 H29 =>
opP ((binC P .geq 3 false).f t25 t27) fun t28 =>
wIf t28 (
opP (offPtr 3 (nth l 2)) fun t31 =>
opW (loadOne t31 H29) fun t32 H33 =>
opP (sliceSl 1 t23 none (some t32) none) fun t33 =>
opW ((buildSliceC P 122 1).f [(0, t33)] H33) fun t34 H36 =>
wCall P n_digest_Sum [t34] H36 fun t35 H38 =>
opP (offPtr 4 (nth l 2)) fun t36 =>
opW (loadAgg 32 t36 H38) fun t37 H41 =>
cSame (sameB H36 H38) (idsOf [t36]) ∧ (cOut (idsOf [t36]) H33.next H36.next ∧ (opP ((binC P .eql 25 false).f t35 t37) fun t38 =>
opP (pickA t28 t38 (.bool false)) fun t39 =>
K t39 H41))) (
opP (pickA t28 undef (.bool false)) fun t39_1 =>
K t39_1 H29))
theorem boot_Sound_eq (t0 t1 t2 : Value) (H : Heap) (K : Value → Heap → Prop) : vcF P n_boot_Sound [t0, t1, t2] H K = boot_Sound t0 t1 t2 H K := by kernel_rfl
theorem boot_Sound_ok {t0 t1 t2 : Value} {H : Heap} {K : Value → Heap → Prop} (h : boot_Sound t0 t1 t2 H K) : wCall P n_boot_Sound [t0, t1, t2] H K := wCall_of_vcF rfl ((boot_Sound_eq t0 t1 t2 H K).mpr h)
def ref12_Sound (t0 t1 : Value) (H : Heap) (K : Value → Heap → Prop) : Prop :=
wNew (cellsL t1) H fun t3 H1 =>
wJoin (fun J =>
opW (loadAgg 36 t3 H1) fun t5 H4 =>
wCall P n_ref10_Right [t5] H4 fun t6 H6 =>
opP (unA .not t6) fun t7 =>
wIf t7 (
opP (pickA t7 (.bool true) undef) fun t17 =>
opP (pickA t17 (.bool true) undef) fun t24 =>
wIf t24 (
K (.bool false) H6) (
J [t0, t3] H6)) (
opP (offPtr 0 t3) fun t9 =>
opW (loadOne t9 H6) fun t10 H12 =>
opP ((binC P .neq 3 true).f t10 (.int .i64 2)) fun t11 =>
wIf t11 (
opP (offPtr 0 t3) fun t13 =>
opW (loadOne t13 H12) fun t14 H16 =>
opP ((binC P .neq 3 true).f t14 (.int .i64 3)) fun t15 =>
opP (pickA t11 t15 (.bool false)) fun t16 =>
opP (pickA t7 (.bool true) t16) fun t17_1 =>
wIf t17_1 (
opP (pickA t17_1 (.bool true) undef) fun t24_1 =>
wIf t24_1 (
K (.bool false) H16) (
J [t0, t3] H16)) (
opW (lenSl t0 H16) fun t20 H22 =>
opP (offPtr 3 t3) fun t21 =>
opW (loadOne t21 H22) fun t22 H25 =>
opP ((binC P .lss 3 false).f t20 t22) fun t23 =>
opP (pickA t17_1 (.bool true) t23) fun t24_2 =>
wIf t24_2 (
K (.bool false) H25) (
J [t0, t3] H25))) (
opP (pickA t11 undef (.bool false)) fun t16_1 =>
opP (pickA t7 (.bool true) t16_1) fun t17_2 =>
opW (lenSl t0 H12) fun t20_1 H31 =>
opP (offPtr 3 t3) fun t21_1 =>
opW (loadOne t21_1 H31) fun t22_1 H34 =>
opP ((binC P .lss 3 false).f t20_1 t22_1) fun t23_1 =>
opP (pickA t17_2 (.bool true) t23_1) fun t24_3 =>
wIf t24_3 (
K (.bool false) H34) (
J [t0, t3] H34)))) (fun l H38 =>
opP (offPtr 3 (nth l 1)) fun t26 =>
opW (loadOne t26 H38) fun t27 H41 =>
opP (sliceSl 1 (nth l 0) none (some t27) none) fun t28 =>
wCall P n_ref02_Sum [t28] H41 fun t29 H44 =>
opP (offPtr 4 (nth l 1)) fun t30 =>
opW (loadAgg 32 t30 H44) fun t31 H47 =>
cSame (sameB H41 H44) (idsOf [t30]) ∧ (opP ((binC P .eql 25 false).f t29 t31) fun t32 =>
K t32 H47))
theorem ref12_Sound_eq (t0 t1 : Value) (H : Heap) (K : Value → Heap → Prop) : vcF P n_ref12_Sound [t0, t1] H K = ref12_Sound t0 t1 H K := by kernel_rfl
theorem ref12_Sound_ok {t0 t1 : Value} {H : Heap} {K : Value → Heap → Prop} (h : ref12_Sound t0 t1 H K) : wCall P n_ref12_Sound [t0, t1] H K := wCall_of_vcF rfl ((ref12_Sound_eq t0 t1 H K).mpr h)
def flash_Device_Size (t0 : Value) (H : Heap) (K : Value → Heap → Prop) : Prop :=
opP (nilCheckA t0) fun t4 =>
opP (offPtr 0 t4) fun t5 =>
opW (loadOne t5 H) fun t6 H3 =>
opW (lenSl t6 H3) fun t7 H5 =>
K t7 H5
theorem flash_Device_Size_eq (t0 : Value) (H : Heap) (K : Value → Heap → Prop) : vcF P n_flash_Device_Size [t0] H K = flash_Device_Size t0 H K := by kernel_rfl
theorem flash_Device_Size_ok {t0 : Value} {H : Heap} {K : Value → Heap → Prop} (h : flash_Device_Size t0 H K) : wCall P n_flash_Device_Size [t0] H K := wCall_of_vcF rfl ((flash_Device_Size_eq t0 H K).mpr h)
noncomputable abbrev flash_Blank_P0 : Code := loopAt P n_flash_Blank 0
def flash_Blank_L0 (l : List Value) (H : Heap) (N : List Value → Heap → Prop) (Qx : Nat → List Value → Heap → Prop) (Qr : List Value → Heap → Prop) : Prop :=
opP ((binC P .lss 3 true).f (nth l 2) (.int .i64 64)) fun t4 =>
wIf t4 (
opP (idxPtr 64 1 (nth l 1) (nth l 2)) fun t7 =>
opW (storeTo 1 t7 (.int .u8 255) H) fun u H3 =>
opP ((binC P .add 3 true).f (nth l 2) (.int .i64 1)) fun t8 =>
N [(nth l 0), (nth l 1), t8] H3) (
Qx 0 [(nth l 0), (nth l 1)] H)
theorem flash_Blank_L0_eq (l : List Value) (H : Heap) (N : List Value → Heap → Prop) (Qx : Nat → List Value → Heap → Prop) (Qr : List Value → Heap → Prop) : vcC P true 10 flash_Blank_P0 (live flash_Blank_P0 0 3) 3 (envOf (bits 10 (live flash_Blank_P0 0 3)) l) H (loopQ 10 flash_Blank_P0 3 N Qx Qr) = flash_Blank_L0 l H N Qx Qr := by kernel_rfl
theorem flash_Blank_L0_ind (I : Nat → List Value → Heap → Prop) (Qx : Nat → List Value → Heap → Prop) (Qr : List Value → Heap → Prop) (hs : ∀ k l H, I k l H → flash_Blank_L0 l H (fun l H => ∃ k', k' < k ∧ I k' l H) Qx Qr) (k : Nat) (l : List Value) (H : Heap) (h : I k l H) : wLoop P true 10 flash_Blank_P0 3 l H Qx Qr :=
  loop_ind (by kernel_rfl) I (fun k l H h => (flash_Blank_L0_eq l H _ Qx Qr).mpr (hs k l H h)) k l H h
def flash_Blank (H : Heap) (K : Value → Heap → Prop) : Prop :=
wNew (zc P 37) H fun t0 H1 =>
wNew (zc P 37) H1 fun t1 H3 =>
wLoop P true 10 flash_Blank_P0 3 [t0, t1, (.int .i64 0)] H3 (fun id l H5 =>
cond (Nat.beq id 0) (
opW (loadAgg 64 (nth l 1) H5) fun t9 H7 =>
opW (storeTo 64 (nth l 0) t9 H7) fun u H9 =>
opW (loadAgg 64 (nth l 0) H9) fun r _ =>
K r H9) (
False)) (fun l H5 =>
opW (loadAgg 64 (nth l 0) H5) fun r_1 _ =>
K r_1 H5)
theorem flash_Blank_eq (H : Heap) (K : Value → Heap → Prop) : vcF P n_flash_Blank [] H K = flash_Blank  H K := by kernel_rfl
theorem flash_Blank_ok {H : Heap} {K : Value → Heap → Prop} (h : flash_Blank  H K) : wCall P n_flash_Blank [] H K := wCall_of_vcF rfl ((flash_Blank_eq  H K).mpr h)
def part_Map_place (t0 t1 t2 : Value) (H : Heap) (K : Value → Heap → Prop) : Prop :=
wCall P n_part_Map_has [t0, t1] H fun t11 H1 =>
opP (unA .not t11) fun t12 =>
wIf t12 (
K (.tuple [(.int .i64 0), (.int .i64 71)].toArray) H1) (
wJoin (fun J =>
opP ((binC P .lss 3 true).f t2 (.int .i64 0)) fun t15 =>
wIf t15 (
opP (pickA t15 (.bool true) undef) fun t27 =>
J [t0, t1, t2, t27] H1) (
opP (nilCheckA t0) fun t19 =>
opP (offPtr 1 t19) fun t20 =>
opW (loadOne t20 H1) fun t21 H9 =>
opP (idxSl 2 t21 t1) fun t23 =>
opP (offPtr 1 t23) fun t24 =>
opW (loadOne t24 H9) fun t25 H13 =>
opP ((binC P .geq 3 false).f t2 t25) fun t26 =>
opP (pickA t15 (.bool true) t26) fun t27_1 =>
J [t0, t1, t2, t27_1] H13)) (fun l H17 =>
wIf (nth l 3) (
K (.tuple [(.int .i64 0), (.int .i64 61)].toArray) H17) (
opP (nilCheckA (nth l 0)) fun t29 =>
opP (offPtr 1 t29) fun t30 =>
opW (loadOne t30 H17) fun t31 H21 =>
opP (idxSl 2 t31 (nth l 1)) fun t33 =>
opP (offPtr 0 t33) fun t34 =>
opW (loadOne t34 H21) fun t35 H25 =>
opP ((binC P .add 3 false).f t35 (nth l 2)) fun t37 =>
K (.tuple [t37, (.int .i64 0)].toArray) H25)))
theorem part_Map_place_eq (t0 t1 t2 : Value) (H : Heap) (K : Value → Heap → Prop) : vcF P n_part_Map_place [t0, t1, t2] H K = part_Map_place t0 t1 t2 H K := by kernel_rfl
theorem part_Map_place_ok {t0 t1 t2 : Value} {H : Heap} {K : Value → Heap → Prop} (h : part_Map_place t0 t1 t2 H K) : wCall P n_part_Map_place [t0, t1, t2] H K := wCall_of_vcF rfl ((part_Map_place_eq t0 t1 t2 H K).mpr h)
def part_Map_note (t0 t1 t2 : Value) (H : Heap) (K : Value → Heap → Prop) : Prop :=
wNew (cellsL t1) H fun t4 H1 =>
opP ((binC P .eql 30 true).f t2 (.int .i64 0)) fun t8 =>
wIf t8 (
opP (nilCheckA t0) fun t10 =>
opP (offPtr 2 t10) fun t11 =>
opW (loadOne t11 H1) fun t12 H6 =>
opP (offPtr 3 t4) fun t13 =>
opW (storeTo 1 t13 t12 H6) fun u H9 =>
opP (nilCheckA t0) fun t16 =>
opP (offPtr 3 t16) fun t17 =>
opW (loadOne t17 H9) fun t18 H13 =>
opW (loadAgg 4 t4 H13) fun t19 H15 =>
opW ((buildSliceC P 44 1).f [(0, t19)] H15) fun t20 H17 =>
opW (appendWith 4 32 t18 t20 H17) fun t21 H19 =>
opP (nilCheckA t0) fun t22 =>
opP (offPtr 3 t22) fun t23 =>
opW (storeTo 1 t23 t21 H19) fun u_1 H23 =>
K t2 H23) (
K t2 H1)
theorem part_Map_note_eq (t0 t1 t2 : Value) (H : Heap) (K : Value → Heap → Prop) : vcF P n_part_Map_note [t0, t1, t2] H K = part_Map_note t0 t1 t2 H K := by kernel_rfl
theorem part_Map_note_ok {t0 t1 t2 : Value} {H : Heap} {K : Value → Heap → Prop} (h : part_Map_note t0 t1 t2 H K) : wCall P n_part_Map_note [t0, t1, t2] H K := wCall_of_vcF rfl ((part_Map_note_eq t0 t1 t2 H K).mpr h)
def flash_Device_Program (t0 t1 t2 : Value) (H : Heap) (K : Value → Heap → Prop) : Prop :=
wNew (cellsL t2) H fun t5 H1 =>
wCall P n_flash_Device_cell [t0, t1] H1 fun t10 H3 =>
opP ((binC P .eql 114 true).f t10 (.pointer none)) fun t13 =>
wIf t13 (
K (.int .i64 61) H3) (
opP (nilCheckA t0) fun t16 =>
opP (offPtr 4 t16) fun t17 =>
opW (loadOne t17 H3) fun t18 H8 =>
wIf t18 (
K (.int .i64 62) H8) (
opP (nilCheckA t10) fun t21 =>
opP (offPtr 64 t21) fun t22 =>
opW (loadAgg 64 t22 H8) fun t23 H12 =>
wCall P n_flash_Blank [] H12 fun t24 H14 =>
cSame (sameB H12 H14) (idsOf [t22]) ∧ (opP ((binC P .neq 37 false).f t23 t24) fun t25 =>
wIf t25 (
K (.int .i64 63) H14) (
wCall P n_flash_Device_step [t0] H14 fun t28 H17 =>
opP (unA .not t28) fun t29 =>
wIf t29 (
K (.int .i64 62) H17) (
opW (loadAgg 64 t5 H17) fun t32 H20 =>
wCall P n_flash_Device_set [t0, t1, t32] H20 fun t33 H22 =>
K (.int .i64 0) H22)))))
theorem flash_Device_Program_eq (t0 t1 t2 : Value) (H : Heap) (K : Value → Heap → Prop) : vcF P n_flash_Device_Program [t0, t1, t2] H K = flash_Device_Program t0 t1 t2 H K := by kernel_rfl
theorem flash_Device_Program_ok {t0 t1 t2 : Value} {H : Heap} {K : Value → Heap → Prop} (h : flash_Device_Program t0 t1 t2 H K) : wCall P n_flash_Device_Program [t0, t1, t2] H K := wCall_of_vcF rfl ((flash_Device_Program_eq t0 t1 t2 H K).mpr h)
def part_Map_Size (t0 t1 : Value) (H : Heap) (K : Value → Heap → Prop) : Prop :=
wCall P n_part_Map_has [t0, t1] H fun t7 H1 =>
opP (unA .not t7) fun t8 =>
wIf t8 (
K (.int .i64 0) H1) (
opP (nilCheckA t0) fun t10 =>
opP (offPtr 1 t10) fun t11 =>
opW (loadOne t11 H1) fun t12 H6 =>
opP (idxSl 2 t12 t1) fun t14 =>
opP (offPtr 1 t14) fun t15 =>
opW (loadOne t15 H6) fun t16 H10 =>
K t16 H10)
theorem part_Map_Size_eq (t0 t1 : Value) (H : Heap) (K : Value → Heap → Prop) : vcF P n_part_Map_Size [t0, t1] H K = part_Map_Size t0 t1 H K := by kernel_rfl
theorem part_Map_Size_ok {t0 t1 : Value} {H : Heap} {K : Value → Heap → Prop} (h : part_Map_Size t0 t1 H K) : wCall P n_part_Map_Size [t0, t1] H K := wCall_of_vcF rfl ((part_Map_Size_eq t0 t1 H K).mpr h)
def part_Map_Read (t0 t1 t2 : Value) (H : Heap) (K : Value → Heap → Prop) : Prop :=
wNew (zc P 37) H fun t6 H1 =>
wCall P n_part_Map_place [t0, t1, t2] H1 fun t14 H3 =>
opP (extA 0 t14) fun t15 =>
opP (extA 1 t14) fun t16 =>
opP ((binC P .neq 30 true).f t16 (.int .i64 0)) fun t18 =>
wIf t18 (
opP ((buildC P 37).f []) fun t19 =>
opW (storeTo 64 t6 t19 H3) fun u H9 =>
opW (loadAgg 64 t6 H9) fun r _ =>
K (.tuple [r, t16].toArray) H9) (
opP (nilCheckA t0) fun t22 =>
opP (offPtr 0 t22) fun t23 =>
opW (loadOne t23 H3) fun t24 H14 =>
wCall P n_flash_Device_Read [t24, t15] H14 fun t26 H16 =>
opP (extA 0 t26) fun t27 =>
opP (extA 1 t26) fun t28 =>
opW (storeTo 64 t6 t27 H16) fun u_1 H20 =>
opW (loadAgg 64 t6 H20) fun r_1 _ =>
K (.tuple [r_1, t28].toArray) H20)
theorem part_Map_Read_eq (t0 t1 t2 : Value) (H : Heap) (K : Value → Heap → Prop) : vcF P n_part_Map_Read [t0, t1, t2] H K = part_Map_Read t0 t1 t2 H K := by kernel_rfl
theorem part_Map_Read_ok {t0 t1 t2 : Value} {H : Heap} {K : Value → Heap → Prop} (h : part_Map_Read t0 t1 t2 H K) : wCall P n_part_Map_Read [t0, t1, t2] H K := wCall_of_vcF rfl ((part_Map_Read_eq t0 t1 t2 H K).mpr h)
def ref06_within (t0 t1 : Value) (H : Heap) (K : Value → Heap → Prop) : Prop :=
opP ((binC P .lss 3 true).f t0 (.int .i64 0)) fun t6 =>
wIf t6 (
K (.int .i64 0) H) (
opP ((binC P .gtr 3 false).f t0 t1) fun t9 =>
wIf t9 (
K t1 H) (
K t0 H))
theorem ref06_within_eq (t0 t1 : Value) (H : Heap) (K : Value → Heap → Prop) : vcF P n_ref06_within [t0, t1] H K = ref06_within t0 t1 H K := by kernel_rfl
theorem ref06_within_ok {t0 t1 : Value} {H : Heap} {K : Value → Heap → Prop} (h : ref06_within t0 t1 H K) : wCall P n_ref06_within [t0, t1] H K := wCall_of_vcF rfl ((ref06_within_eq t0 t1 H K).mpr h)
noncomputable abbrev ref06_Blank_P0 : Code := loopAt P n_ref06_Blank 0
def ref06_Blank_L0 (l : List Value) (H : Heap) (N : List Value → Heap → Prop) (Qx : Nat → List Value → Heap → Prop) (Qr : List Value → Heap → Prop) : Prop :=
opP ((binC P .lss 3 true).f (nth l 2) (.int .i64 64)) fun t5 =>
wIf t5 (
opP (idxPtr 64 1 (nth l 1) (nth l 2)) fun t8 =>
opW (storeTo 1 t8 (.int .u8 255) H) fun u H3 =>
opP ((binC P .add 3 true).f (nth l 2) (.int .i64 1)) fun t9 =>
N [(nth l 0), (nth l 1), t9] H3) (
Qx 0 [(nth l 0), (nth l 1)] H)
theorem ref06_Blank_L0_eq (l : List Value) (H : Heap) (N : List Value → Heap → Prop) (Qx : Nat → List Value → Heap → Prop) (Qr : List Value → Heap → Prop) : vcC P true 11 ref06_Blank_P0 (live ref06_Blank_P0 0 3) 3 (envOf (bits 11 (live ref06_Blank_P0 0 3)) l) H (loopQ 11 ref06_Blank_P0 3 N Qx Qr) = ref06_Blank_L0 l H N Qx Qr := by kernel_rfl
theorem ref06_Blank_L0_ind (I : Nat → List Value → Heap → Prop) (Qx : Nat → List Value → Heap → Prop) (Qr : List Value → Heap → Prop) (hs : ∀ k l H, I k l H → ref06_Blank_L0 l H (fun l H => ∃ k', k' < k ∧ I k' l H) Qx Qr) (k : Nat) (l : List Value) (H : Heap) (h : I k l H) : wLoop P true 11 ref06_Blank_P0 3 l H Qx Qr :=
  loop_ind (by kernel_rfl) I (fun k l H h => (ref06_Blank_L0_eq l H _ Qx Qr).mpr (hs k l H h)) k l H h
def ref06_Blank (H : Heap) (K : Value → Heap → Prop) : Prop :=
wNew (zc P 37) H fun t0 H1 =>
opP ((buildC P 37).f []) fun t3 =>
wNew (zc P 37) H1 fun t1 H4 =>
opW (storeTo 64 t1 t3 H4) fun u H6 =>
wLoop P true 11 ref06_Blank_P0 3 [t0, t1, (.int .i64 0)] H6 (fun id l H8 =>
cond (Nat.beq id 0) (
opW (loadAgg 64 (nth l 1) H8) fun t10 H10 =>
opW (storeTo 64 (nth l 0) t10 H10) fun u_1 H12 =>
opW (loadAgg 64 (nth l 0) H12) fun r _ =>
K r H12) (
False)) (fun l H8 =>
opW (loadAgg 64 (nth l 0) H8) fun r_1 _ =>
K r_1 H8)
theorem ref06_Blank_eq (H : Heap) (K : Value → Heap → Prop) : vcF P n_ref06_Blank [] H K = ref06_Blank  H K := by kernel_rfl
theorem ref06_Blank_ok {H : Heap} {K : Value → Heap → Prop} (h : ref06_Blank  H K) : wCall P n_ref06_Blank [] H K := wCall_of_vcF rfl ((ref06_Blank_eq  H K).mpr h)
noncomputable abbrev ref07_place_P0 : Code := loopAt P n_ref07_place 0
def ref07_place_L0 (l : List Value) (H : Heap) (N : List Value → Heap → Prop) (Qx : Nat → List Value → Heap → Prop) (Qr : List Value → Heap → Prop) : Prop :=
opP ((binC P .lss 3 false).f (nth l 5) (nth l 1)) fun t37 =>
wIf t37 (
opP (nilCheckA (nth l 0)) fun t42 =>
opP (offPtr 1 t42) fun t43 =>
opW (loadOne t43 H) fun t44 H4 =>
opP (idxSl 1 t44 (nth l 5)) fun t46 =>
opW (loadOne t46 H4) fun t47 H7 =>
opP ((binC P .add 3 false).f (nth l 4) t47) fun t48 =>
opP ((binC P .add 3 true).f (nth l 5) (.int .i64 1)) fun t39 =>
N [(nth l 0), (nth l 1), (nth l 2), (nth l 3), t48, t39] H7) (
Qx 0 [(nth l 2), (nth l 3), (nth l 4)] H)
theorem ref07_place_L0_eq (l : List Value) (H : Heap) (N : List Value → Heap → Prop) (Qx : Nat → List Value → Heap → Prop) (Qr : List Value → Heap → Prop) : vcC P true 50 ref07_place_P0 (live ref07_place_P0 0 448) 448 (envOf (bits 50 (live ref07_place_P0 0 448)) l) H (loopQ 50 ref07_place_P0 448 N Qx Qr) = ref07_place_L0 l H N Qx Qr := by kernel_rfl
theorem ref07_place_L0_ind (I : Nat → List Value → Heap → Prop) (Qx : Nat → List Value → Heap → Prop) (Qr : List Value → Heap → Prop) (hs : ∀ k l H, I k l H → ref07_place_L0 l H (fun l H => ∃ k', k' < k ∧ I k' l H) Qx Qr) (k : Nat) (l : List Value) (H : Heap) (h : I k l H) : wLoop P true 50 ref07_place_P0 448 l H Qx Qr :=
  loop_ind (by kernel_rfl) I (fun k l H h => (ref07_place_L0_eq l H _ Qx Qr).mpr (hs k l H h)) k l H h
def ref07_place (t0 t1 t2 : Value) (H : Heap) (K : Value → Heap → Prop) : Prop :=
wJoin (fun J =>
opP ((binC P .lss 3 true).f t1 (.int .i64 0)) fun t11 =>
wIf t11 (
opP (pickA t11 (.bool true) undef) fun t20 =>
J [t0, t1, t2, (.int .i64 0), (.int .i64 0), t20] H) (
opP (nilCheckA t0) fun t15 =>
opP (offPtr 1 t15) fun t16 =>
opW (loadOne t16 H) fun t17 H6 =>
opW (lenSl t17 H6) fun t18 H8 =>
opP ((binC P .geq 3 false).f t1 t18) fun t19 =>
opP (pickA t11 (.bool true) t19) fun t20_1 =>
J [t0, t1, t2, (.int .i64 0), (.int .i64 0), t20_1] H8)) (fun l H12 =>
wIf (nth l 5) (
K (.tuple [(.int .i64 0), (.int .i64 71)].toArray) H12) (
wJoin (fun J_1 =>
opP ((binC P .lss 3 true).f (nth l 2) (.int .i64 0)) fun t22 =>
wIf t22 (
opP (pickA t22 (.bool true) undef) fun t33 =>
J_1 [(nth l 0), (nth l 1), (nth l 2), (nth l 3), (nth l 4), t33] H12) (
opP (nilCheckA (nth l 0)) fun t26 =>
opP (offPtr 1 t26) fun t27 =>
opW (loadOne t27 H12) fun t28 H19 =>
opP (idxSl 1 t28 (nth l 1)) fun t30 =>
opW (loadOne t30 H19) fun t31 H22 =>
opP ((binC P .geq 3 false).f (nth l 2) t31) fun t32 =>
opP (pickA t22 (.bool true) t32) fun t33_1 =>
J_1 [(nth l 0), (nth l 1), (nth l 2), (nth l 3), (nth l 4), t33_1] H22)) (fun l_1 H26 =>
wIf (nth l_1 5) (
K (.tuple [(.int .i64 0), (.int .i64 61)].toArray) H26) (
wLoop P true 50 ref07_place_P0 448 [(nth l_1 0), (nth l_1 1), (nth l_1 3), (nth l_1 4), (nth l_1 2), (.int .i64 0)] H26 (fun id l_2 H28 =>
cond (Nat.beq id 0) (
K (.tuple [(nth l_2 2), (.int .i64 0)].toArray) H28) (
False)) (fun l_2 H28 =>
K (.tuple [(nth l_2 0), (nth l_2 1)].toArray) H28)))))
theorem ref07_place_eq (t0 t1 t2 : Value) (H : Heap) (K : Value → Heap → Prop) : vcF P n_ref07_place [t0, t1, t2] H K = ref07_place t0 t1 t2 H K := by kernel_rfl
theorem ref07_place_ok {t0 t1 t2 : Value} {H : Heap} {K : Value → Heap → Prop} (h : ref07_place t0 t1 t2 H K) : wCall P n_ref07_place [t0, t1, t2] H K := wCall_of_vcF rfl ((ref07_place_eq t0 t1 t2 H K).mpr h)
def ref06_Program (t0 t1 t2 : Value) (H : Heap) (K : Value → Heap → Prop) : Prop :=
wNew (cellsL t2) H fun t5 H1 =>
wCall P n_ref06_Read [t0, t1] H1 fun t12 H3 =>
opP (extA 0 t12) fun t13 =>
opP (extA 1 t12) fun t14 =>
wNew (zc P 37) H3 fun t7 H7 =>
opW (storeTo 64 t7 t13 H7) fun u H9 =>
opP ((binC P .neq 3 true).f t14 (.int .i64 0)) fun t16 =>
wIf t16 (
K t14 H9) (
opP (nilCheckA t0) fun t19 =>
opP (offPtr 6 t19) fun t20 =>
opW (loadOne t20 H9) fun t21 H14 =>
wIf t21 (
K (.int .i64 62) H14) (
opW (loadAgg 64 t7 H14) fun t22 H16 =>
wCall P n_ref06_Blank [] H16 fun t23 H18 =>
cSame (sameB H16 H18) (idsOf [t7]) ∧ (opP ((binC P .neq 37 false).f t22 t23) fun t24 =>
wIf t24 (
K (.int .i64 63) H18) (
wCall P n_ref06_spend [t0] H18 fun t26 H21 =>
opP (unA .not t26) fun t27 =>
wIf t27 (
K (.int .i64 62) H21) (
opP (nilCheckA t0) fun t30 =>
opP (offPtr 3 t30) fun t31 =>
opW (loadOne t31 H21) fun t32 H26 =>
opW (loadAgg 64 t5 H26) fun t34 H28 =>
opP ((buildC P 121).f [(0, t1), (1, t34)]) fun t35 =>
opW ((buildSliceC P 88 1).f [(0, t35)] H28) fun t36 H31 =>
opW (appendWith 65 72 t32 t36 H31) fun t37 H33 =>
opP (nilCheckA t0) fun t38 =>
opP (offPtr 3 t38) fun t39 =>
opW (storeTo 1 t39 t37 H33) fun u_1 H37 =>
K (.int .i64 0) H37)))))
theorem ref06_Program_eq (t0 t1 t2 : Value) (H : Heap) (K : Value → Heap → Prop) : vcF P n_ref06_Program [t0, t1, t2] H K = ref06_Program t0 t1 t2 H K := by kernel_rfl
theorem ref06_Program_ok {t0 t1 t2 : Value} {H : Heap} {K : Value → Heap → Prop} (h : ref06_Program t0 t1 t2 H K) : wCall P n_ref06_Program [t0, t1, t2] H K := wCall_of_vcF rfl ((ref06_Program_eq t0 t1 t2 H K).mpr h)
def ref07_Read (t0 t1 t2 : Value) (H : Heap) (K : Value → Heap → Prop) : Prop :=
wNew (zc P 37) H fun t6 H1 =>
wCall P n_ref07_place [t0, t1, t2] H1 fun t14 H3 =>
opP (extA 0 t14) fun t15 =>
opP (extA 1 t14) fun t16 =>
opP ((binC P .neq 3 true).f t16 (.int .i64 0)) fun t18 =>
wIf t18 (
opP ((buildC P 37).f []) fun t19 =>
opW (storeTo 64 t6 t19 H3) fun u H9 =>
opW (loadAgg 64 t6 H9) fun r _ =>
K (.tuple [r, t16].toArray) H9) (
opP (nilCheckA t0) fun t22 =>
opP (offPtr 0 t22) fun t23 =>
opW (loadOne t23 H3) fun t24 H14 =>
wCall P n_ref06_Read [t24, t15] H14 fun t26 H16 =>
opP (extA 0 t26) fun t27 =>
opP (extA 1 t26) fun t28 =>
opW (storeTo 64 t6 t27 H16) fun u_1 H20 =>
opW (loadAgg 64 t6 H20) fun r_1 _ =>
K (.tuple [r_1, t28].toArray) H20)
theorem ref07_Read_eq (t0 t1 t2 : Value) (H : Heap) (K : Value → Heap → Prop) : vcF P n_ref07_Read [t0, t1, t2] H K = ref07_Read t0 t1 t2 H K := by kernel_rfl
theorem ref07_Read_ok {t0 t1 t2 : Value} {H : Heap} {K : Value → Heap → Prop} (h : ref07_Read t0 t1 t2 H K) : wCall P n_ref07_Read [t0, t1, t2] H K := wCall_of_vcF rfl ((ref07_Read_eq t0 t1 t2 H K).mpr h)
def ref02_first (H : Heap) (K : Value → Heap → Prop) : Prop :=
wNew (zc P 96) H fun t0 H1 =>
opP ((buildC P 96).f [(0, (.int .u64 1779033703)), (1, (.int .u64 3144134277)), (2, (.int .u64 1013904242)), (3, (.int .u64 2773480762)), (4, (.int .u64 1359893119)), (5, (.int .u64 2600822924)), (6, (.int .u64 528734635)), (7, (.int .u64 1541459225))]) fun t1 =>
opW (storeTo 8 t0 t1 H1) fun u H4 =>
opW (loadAgg 8 t0 H4) fun r _ =>
K r H4
theorem ref02_first_eq (H : Heap) (K : Value → Heap → Prop) : vcF P n_ref02_first [] H K = ref02_first  H K := by kernel_rfl
theorem ref02_first_ok {H : Heap} {K : Value → Heap → Prop} (h : ref02_first  H K) : wCall P n_ref02_first [] H K := wCall_of_vcF rfl ((ref02_first_eq  H K).mpr h)
def ref02_rounds (H : Heap) (K : Value → Heap → Prop) : Prop :=
wNew (zc P 98) H fun t0 H1 =>
opP ((buildC P 98).f [(0, (.int .u64 1116352408)), (1, (.int .u64 1899447441)), (2, (.int .u64 3049323471)), (3, (.int .u64 3921009573)), (4, (.int .u64 961987163)), (5, (.int .u64 1508970993)), (6, (.int .u64 2453635748)), (7, (.int .u64 2870763221)), (8, (.int .u64 3624381080)), (9, (.int .u64 310598401)), (10, (.int .u64 607225278)), (11, (.int .u64 1426881987)), (12, (.int .u64 1925078388)), (13, (.int .u64 2162078206)), (14, (.int .u64 2614888103)), (15, (.int .u64 3248222580)), (16, (.int .u64 3835390401)), (17, (.int .u64 4022224774)), (18, (.int .u64 264347078)), (19, (.int .u64 604807628)), (20, (.int .u64 770255983)), (21, (.int .u64 1249150122)), (22, (.int .u64 1555081692)), (23, (.int .u64 1996064986)), (24, (.int .u64 2554220882)), (25, (.int .u64 2821834349)), (26, (.int .u64 2952996808)), (27, (.int .u64 3210313671)), (28, (.int .u64 3336571891)), (29, (.int .u64 3584528711)), (30, (.int .u64 113926993)), (31, (.int .u64 338241895)), (32, (.int .u64 666307205)), (33, (.int .u64 773529912)), (34, (.int .u64 1294757372)), (35, (.int .u64 1396182291)), (36, (.int .u64 1695183700)), (37, (.int .u64 1986661051)), (38, (.int .u64 2177026350)), (39, (.int .u64 2456956037)), (40, (.int .u64 2730485921)), (41, (.int .u64 2820302411)), (42, (.int .u64 3259730800)), (43, (.int .u64 3345764771)), (44, (.int .u64 3516065817)), (45, (.int .u64 3600352804)), (46, (.int .u64 4094571909)), (47, (.int .u64 275423344)), (48, (.int .u64 430227734)), (49, (.int .u64 506948616)), (50, (.int .u64 659060556)), (51, (.int .u64 883997877)), (52, (.int .u64 958139571)), (53, (.int .u64 1322822218)), (54, (.int .u64 1537002063)), (55, (.int .u64 1747873779)), (56, (.int .u64 1955562222)), (57, (.int .u64 2024104815)), (58, (.int .u64 2227730452)), (59, (.int .u64 2361852424)), (60, (.int .u64 2428436474)), (61, (.int .u64 2756734187)), (62, (.int .u64 3204031479)), (63, (.int .u64 3329325298))]) fun t1 =>
opW (storeTo 64 t0 t1 H1) fun u H4 =>
opW (loadAgg 64 t0 H4) fun r _ =>
K r H4
theorem ref02_rounds_eq (H : Heap) (K : Value → Heap → Prop) : vcF P n_ref02_rounds [] H K = ref02_rounds  H K := by kernel_rfl
theorem ref02_rounds_ok {H : Heap} {K : Value → Heap → Prop} (h : ref02_rounds  H K) : wCall P n_ref02_rounds [] H K := wCall_of_vcF rfl ((ref02_rounds_eq  H K).mpr h)
def ref02_right (t0 t1 : Value) (H : Heap) (K : Value → Heap → Prop) : Prop :=
opP ((binC P .shr 23 false).f t0 t1) fun t7 =>
opP ((binC P .sub 23 true).f (.int .u64 32) t1) fun t10 =>
opP ((binC P .shl 23 false).f t0 t10) fun t11 =>
opP ((binC P .or 23 false).f t7 t11) fun t12 =>
opP ((binC P .rem 23 true).f t12 (.int .u64 4294967296)) fun t13 =>
K t13 H
theorem ref02_right_eq (t0 t1 : Value) (H : Heap) (K : Value → Heap → Prop) : vcF P n_ref02_right [t0, t1] H K = ref02_right t0 t1 H K := by kernel_rfl
theorem ref02_right_ok {t0 t1 : Value} {H : Heap} {K : Value → Heap → Prop} (h : ref02_right t0 t1 H K) : wCall P n_ref02_right [t0, t1] H K := wCall_of_vcF rfl ((ref02_right_eq t0 t1 H K).mpr h)
def slot_Right (t0 : Value) (H : Heap) (K : Value → Heap → Prop) : Prop :=
wNew (cellsL t0) H fun t1 H1 =>
wJoin (fun J =>
opP (offPtr 0 t1) fun t3 =>
opW (loadOne t3 H1) fun t4 H5 =>
wJoin (fun J_1 =>
opP ((binC P .eql 3 true).f t4 (.int .i64 0)) fun t6 =>
wIf t6 (
J_1 [t1, t4, t6] H5) (
opP ((binC P .eql 3 true).f t4 (.int .i64 1)) fun t7 =>
wIf t7 (
J_1 [t1, t4, t7] H5) (
opP ((binC P .eql 3 true).f t4 (.int .i64 4)) fun t8 =>
J_1 [t1, t4, t8] H5))) (fun l H11 =>
wIf (nth l 2) (
opW (loadAgg 36 (nth l 0) H11) fun t9 H13 =>
opP (offPtr 0 (nth l 0)) fun t10 =>
opW (loadOne t10 H13) fun t11 H16 =>
opP ((buildC P 27).f [(0, t11)]) fun t12 =>
opP ((binC P .eql 27 false).f t9 t12) fun t13 =>
K t13 H16) (
opP ((binC P .eql 3 true).f (nth l 1) (.int .i64 2)) fun t15 =>
wIf t15 (
opP (offPtr 1 (nth l 0)) fun t16 =>
opW (loadOne t16 H11) fun t17 H22 =>
opP ((binC P .lss 3 true).f t17 (.int .i64 0)) fun t18 =>
wIf t18 (
opP (pickA t18 (.bool true) undef) fun t23 =>
wIf t23 (
K (.bool false) H22) (
J [(nth l 0)] H22)) (
opP (offPtr 1 (nth l 0)) fun t20 =>
opW (loadOne t20 H22) fun t21 H27 =>
opP ((binC P .gtr 3 true).f t21 (.int .i64 7)) fun t22 =>
opP (pickA t18 (.bool true) t22) fun t23_1 =>
wIf t23_1 (
K (.bool false) H27) (
J [(nth l 0)] H27))) (
opP ((binC P .eql 3 true).f (nth l 1) (.int .i64 3)) fun t25 =>
wIf t25 (
opP (offPtr 1 (nth l 0)) fun t26 =>
opW (loadOne t26 H11) fun t27 H33 =>
opP ((binC P .neq 3 true).f t27 (.int .i64 0)) fun t28 =>
wIf t28 (
K (.bool false) H33) (
J [(nth l 0)] H33)) (
K (.bool false) H11))))) (fun l_1 H36 =>
opP (offPtr 2 (nth l_1 0)) fun t29 =>
opW (loadOne t29 H36) fun t30 H39 =>
opP ((binC P .geq 23 true).f t30 (.int .u64 1)) fun t31 =>
wIf t31 (
opP (offPtr 2 (nth l_1 0)) fun t33 =>
opW (loadOne t33 H39) fun t34 H43 =>
opP ((binC P .leq 23 true).f t34 (.int .u64 281474976710656)) fun t35 =>
opP (pickA t31 t35 (.bool false)) fun t36 =>
wIf t36 (
opP (offPtr 3 (nth l_1 0)) fun t38 =>
opW (loadOne t38 H43) fun t39 H48 =>
opP ((binC P .geq 3 true).f t39 (.int .i64 1)) fun t40 =>
opP (pickA t36 t40 (.bool false)) fun t41 =>
wIf t41 (
opP (offPtr 3 (nth l_1 0)) fun t43 =>
opW (loadOne t43 H48) fun t44 H53 =>
opP ((binC P .leq 3 true).f t44 (.int .i64 65536)) fun t45 =>
opP (pickA t41 t45 (.bool false)) fun t46 =>
K t46 H53) (
opP (pickA t41 undef (.bool false)) fun t46_1 =>
K t46_1 H48)) (
opP (pickA t36 undef (.bool false)) fun t41_1 =>
opP (pickA t41_1 undef (.bool false)) fun t46_2 =>
K t46_2 H43)) (
opP (pickA t31 undef (.bool false)) fun t36_1 =>
opP (pickA t36_1 undef (.bool false)) fun t41_2 =>
opP (pickA t41_2 undef (.bool false)) fun t46_3 =>
K t46_3 H39))
theorem slot_Right_eq (t0 : Value) (H : Heap) (K : Value → Heap → Prop) : vcF P n_slot_Right [t0] H K = slot_Right t0 H K := by kernel_rfl
theorem slot_Right_ok {t0 : Value} {H : Heap} {K : Value → Heap → Prop} (h : slot_Right t0 H K) : wCall P n_slot_Right [t0] H K := wCall_of_vcF rfl ((slot_Right_eq t0 H K).mpr h)
noncomputable abbrev digest_Sum_P0 : Code := loopAt P n_digest_Sum 0
def digest_Sum_L0 (l : List Value) (H : Heap) (N : List Value → Heap → Prop) (Qx : Nat → List Value → Heap → Prop) (Qr : List Value → Heap → Prop) : Prop :=
opP ((binC P .lss 3 false).f (nth l 4) (nth l 3)) fun t10 =>
wIf t10 (
opP (idxSl 1 (nth l 2) (nth l 4)) fun t11 =>
opW (loadOne t11 H) fun t12 H3 =>
wCall P n_digest_Digest_Write [(nth l 1), t12] H3 fun t15 H5 =>
opP ((binC P .add 3 true).f (nth l 4) (.int .i64 1)) fun t16 =>
N [(nth l 0), (nth l 1), (nth l 2), (nth l 3), t16] H5) (
Qx 0 [(nth l 0), (nth l 1)] H)
theorem digest_Sum_L0_eq (l : List Value) (H : Heap) (N : List Value → Heap → Prop) (Qx : Nat → List Value → Heap → Prop) (Qr : List Value → Heap → Prop) : vcC P true 19 digest_Sum_P0 (live digest_Sum_P0 0 12) 12 (envOf (bits 19 (live digest_Sum_P0 0 12)) l) H (loopQ 19 digest_Sum_P0 12 N Qx Qr) = digest_Sum_L0 l H N Qx Qr := by kernel_rfl
theorem digest_Sum_L0_ind (I : Nat → List Value → Heap → Prop) (Qx : Nat → List Value → Heap → Prop) (Qr : List Value → Heap → Prop) (hs : ∀ k l H, I k l H → digest_Sum_L0 l H (fun l H => ∃ k', k' < k ∧ I k' l H) Qx Qr) (k : Nat) (l : List Value) (H : Heap) (h : I k l H) : wLoop P true 19 digest_Sum_P0 12 l H Qx Qr :=
  loop_ind (by kernel_rfl) I (fun k l H h => (digest_Sum_L0_eq l H _ Qx Qr).mpr (hs k l H h)) k l H h
def digest_Sum (t0 : Value) (H : Heap) (K : Value → Heap → Prop) : Prop :=
wNew (zc P 25) H fun t2 H1 =>
wCall P n_digest_New [] H1 fun t6 H3 =>
opW (lenSl t0 H3) fun t8 H5 =>
wLoop P true 19 digest_Sum_P0 12 [t2, t6, t0, t8, (.int .i64 0)] H5 (fun id l H7 =>
cond (Nat.beq id 0) (
wCall P n_digest_Digest_Sum [(nth l 1)] H7 fun t18 H9 =>
opW (storeTo 32 (nth l 0) t18 H9) fun u H11 =>
opW (loadAgg 32 (nth l 0) H11) fun r _ =>
K r H11) (
False)) (fun l H7 =>
opW (loadAgg 32 (nth l 0) H7) fun r_1 _ =>
K r_1 H7)
theorem digest_Sum_eq (t0 : Value) (H : Heap) (K : Value → Heap → Prop) : vcF P n_digest_Sum [t0] H K = digest_Sum t0 H K := by kernel_rfl
theorem digest_Sum_ok {t0 : Value} {H : Heap} {K : Value → Heap → Prop} (h : digest_Sum t0 H K) : wCall P n_digest_Sum [t0] H K := wCall_of_vcF rfl ((digest_Sum_eq t0 H K).mpr h)
def ref10_Right (t0 : Value) (H : Heap) (K : Value → Heap → Prop) : Prop :=
wNew (cellsL t0) H fun t1 H1 =>
wJoin (fun J =>
opP (offPtr 1 t1) fun t5 =>
opW (loadOne t5 H1) fun t6 H5 =>
opP ((binC P .eql 3 true).f t6 (.int .i64 0)) fun t7 =>
wIf t7 (
opP (offPtr 2 t1) fun t9 =>
opW (loadOne t9 H5) fun t10 H9 =>
opP ((binC P .eql 23 true).f t10 (.int .u64 0)) fun t11 =>
opP (pickA t7 t11 (.bool false)) fun t12 =>
wIf t12 (
opP (offPtr 3 t1) fun t14 =>
opW (loadOne t14 H9) fun t15 H14 =>
opP ((binC P .eql 3 true).f t15 (.int .i64 0)) fun t16 =>
opP (pickA t12 t16 (.bool false)) fun t17 =>
wIf t17 (
opP (offPtr 4 t1) fun t19 =>
opW (loadAgg 32 t19 H14) fun t20 H19 =>
opP ((buildC P 25).f []) fun t21 =>
opP ((binC P .eql 25 false).f t20 t21) fun t22 =>
opP (pickA t17 t22 (.bool false)) fun t23 =>
J [t1, t23] H19) (
opP (pickA t17 undef (.bool false)) fun t23_1 =>
J [t1, t23_1] H14)) (
opP (pickA t12 undef (.bool false)) fun t17_1 =>
opP (pickA t17_1 undef (.bool false)) fun t23_2 =>
J [t1, t23_2] H9)) (
opP (pickA t7 undef (.bool false)) fun t12_1 =>
opP (pickA t12_1 undef (.bool false)) fun t17_2 =>
opP (pickA t17_2 undef (.bool false)) fun t23_3 =>
J [t1, t23_3] H5)) (fun l H30 =>
wJoin (fun J_1 =>
opP (offPtr 2 (nth l 0)) fun t24 =>
opW (loadOne t24 H30) fun t25 H34 =>
opP ((binC P .geq 23 true).f t25 (.int .u64 1)) fun t26 =>
wIf t26 (
opP (offPtr 2 (nth l 0)) fun t28 =>
opW (loadOne t28 H34) fun t29 H38 =>
opP ((binC P .leq 23 true).f t29 (.int .u64 281474976710656)) fun t30 =>
opP (pickA t26 t30 (.bool false)) fun t31 =>
wIf t31 (
opP (offPtr 3 (nth l 0)) fun t33 =>
opW (loadOne t33 H38) fun t34 H43 =>
opP ((binC P .geq 3 true).f t34 (.int .i64 1)) fun t35 =>
opP (pickA t31 t35 (.bool false)) fun t36 =>
wIf t36 (
opP (offPtr 3 (nth l 0)) fun t38 =>
opW (loadOne t38 H43) fun t39 H48 =>
opP ((binC P .leq 3 true).f t39 (.int .i64 65536)) fun t40 =>
opP (pickA t36 t40 (.bool false)) fun t41 =>
J_1 [(nth l 0), (nth l 1), t41] H48) (
opP (pickA t36 undef (.bool false)) fun t41_1 =>
J_1 [(nth l 0), (nth l 1), t41_1] H43)) (
opP (pickA t31 undef (.bool false)) fun t36_1 =>
opP (pickA t36_1 undef (.bool false)) fun t41_2 =>
J_1 [(nth l 0), (nth l 1), t41_2] H38)) (
opP (pickA t26 undef (.bool false)) fun t31_1 =>
opP (pickA t31_1 undef (.bool false)) fun t36_2 =>
opP (pickA t36_2 undef (.bool false)) fun t41_3 =>
J_1 [(nth l 0), (nth l 1), t41_3] H34)) (fun l_1 H58 =>
wJoin (fun J_2 =>
opP (offPtr 0 (nth l_1 0)) fun t42 =>
opW (loadOne t42 H58) fun t43 H62 =>
opP ((binC P .eql 3 true).f t43 (.int .i64 0)) fun t44 =>
wIf t44 (
opP (pickA t44 (.bool true) undef) fun t49 =>
opP (pickA t49 (.bool true) undef) fun t54 =>
J_2 [(nth l_1 0), (nth l_1 1), (nth l_1 2), t54] H62) (
opP (offPtr 0 (nth l_1 0)) fun t46 =>
opW (loadOne t46 H62) fun t47 H68 =>
opP ((binC P .eql 3 true).f t47 (.int .i64 1)) fun t48 =>
opP (pickA t44 (.bool true) t48) fun t49_1 =>
wIf t49_1 (
opP (pickA t49_1 (.bool true) undef) fun t54_1 =>
J_2 [(nth l_1 0), (nth l_1 1), (nth l_1 2), t54_1] H68) (
opP (offPtr 0 (nth l_1 0)) fun t51 =>
opW (loadOne t51 H68) fun t52 H74 =>
opP ((binC P .eql 3 true).f t52 (.int .i64 4)) fun t53 =>
opP (pickA t49_1 (.bool true) t53) fun t54_2 =>
J_2 [(nth l_1 0), (nth l_1 1), (nth l_1 2), t54_2] H74))) (fun l_2 H78 =>
wIf (nth l_2 3) (
K (nth l_2 1) H78) (
opP (offPtr 0 (nth l_2 0)) fun t56 =>
opW (loadOne t56 H78) fun t57 H81 =>
opP ((binC P .eql 3 true).f t57 (.int .i64 2)) fun t58 =>
wIf t58 (
wIf (nth l_2 2) (
opP (offPtr 1 (nth l_2 0)) fun t61 =>
opW (loadOne t61 H81) fun t62 H85 =>
opP ((binC P .geq 3 true).f t62 (.int .i64 0)) fun t63 =>
opP (pickA (nth l_2 2) t63 (.bool false)) fun t64 =>
wIf t64 (
opP (offPtr 1 (nth l_2 0)) fun t66 =>
opW (loadOne t66 H85) fun t67 H90 =>
opP ((binC P .leq 3 true).f t67 (.int .i64 7)) fun t68 =>
opP (pickA t64 t68 (.bool false)) fun t69 =>
K t69 H90) (
opP (pickA t64 undef (.bool false)) fun t69_1 =>
K t69_1 H85)) (
opP (pickA (nth l_2 2) undef (.bool false)) fun t64_1 =>
opP (pickA t64_1 undef (.bool false)) fun t69_2 =>
K t69_2 H81)) (
opP (offPtr 0 (nth l_2 0)) fun t70 =>
opW (loadOne t70 H81) fun t71 H98 =>
opP ((binC P .eql 3 true).f t71 (.int .i64 3)) fun t72 =>
wIf t72 (
opP (pickA t72 (nth l_2 2) (.bool false)) fun t75 =>
wIf t75 (
opP (offPtr 1 (nth l_2 0)) fun t77 =>
opW (loadOne t77 H98) fun t78 H103 =>
opP ((binC P .eql 3 true).f t78 (.int .i64 0)) fun t79 =>
opP (pickA t75 t79 (.bool false)) fun t80 =>
K t80 H103) (
opP (pickA t75 undef (.bool false)) fun t80_1 =>
K t80_1 H98)) (
opP (pickA t72 undef (.bool false)) fun t75_1 =>
opP (pickA t75_1 undef (.bool false)) fun t80_2 =>
K t80_2 H98))))))
theorem ref10_Right_eq (t0 : Value) (H : Heap) (K : Value → Heap → Prop) : vcF P n_ref10_Right [t0] H K = ref10_Right t0 H K := by kernel_rfl
theorem ref10_Right_ok {t0 : Value} {H : Heap} {K : Value → Heap → Prop} (h : ref10_Right t0 H K) : wCall P n_ref10_Right [t0] H K := wCall_of_vcF rfl ((ref10_Right_eq t0 H K).mpr h)
def part_Map_has (t0 t1 : Value) (H : Heap) (K : Value → Heap → Prop) : Prop :=
opP ((binC P .geq 3 true).f t1 (.int .i64 0)) fun t6 =>
wIf t6 (
opP (nilCheckA t0) fun t10 =>
opP (offPtr 1 t10) fun t11 =>
opW (loadOne t11 H) fun t12 H4 =>
opW (lenSl t12 H4) fun t13 H6 =>
opP ((binC P .lss 3 false).f t1 t13) fun t14 =>
opP (pickA t6 t14 (.bool false)) fun t15 =>
K t15 H6) (
opP (pickA t6 undef (.bool false)) fun t15_1 =>
K t15_1 H)
theorem part_Map_has_eq (t0 t1 : Value) (H : Heap) (K : Value → Heap → Prop) : vcF P n_part_Map_has [t0, t1] H K = part_Map_has t0 t1 H K := by kernel_rfl
theorem part_Map_has_ok {t0 t1 : Value} {H : Heap} {K : Value → Heap → Prop} (h : part_Map_has t0 t1 H K) : wCall P n_part_Map_has [t0, t1] H K := wCall_of_vcF rfl ((part_Map_has_eq t0 t1 H K).mpr h)
def flash_Device_cell (t0 t1 : Value) (H : Heap) (K : Value → Heap → Prop) : Prop :=
wJoin (fun J =>
opP ((binC P .lss 3 true).f t1 (.int .i64 0)) fun t6 =>
wIf t6 (
opP (pickA t6 (.bool true) undef) fun t15 =>
wIf t15 (
K (.pointer none) H) (
J [t0, t1] H)) (
opP (nilCheckA t0) fun t10 =>
opP (offPtr 0 t10) fun t11 =>
opW (loadOne t11 H) fun t12 H6 =>
opW (lenSl t12 H6) fun t13 H8 =>
opP ((binC P .geq 3 false).f t1 t13) fun t14 =>
opP (pickA t6 (.bool true) t14) fun t15_1 =>
wIf t15_1 (
K (.pointer none) H8) (
J [t0, t1] H8))) (fun l H12 =>
opP (nilCheckA (nth l 0)) fun t17 =>
opP (offPtr 0 t17) fun t18 =>
opW (loadOne t18 H12) fun t19 H16 =>
opP (idxSl 129 t19 (nth l 1)) fun t21 =>
K t21 H16)
theorem flash_Device_cell_eq (t0 t1 : Value) (H : Heap) (K : Value → Heap → Prop) : vcF P n_flash_Device_cell [t0, t1] H K = flash_Device_cell t0 t1 H K := by kernel_rfl
theorem flash_Device_cell_ok {t0 t1 : Value} {H : Heap} {K : Value → Heap → Prop} (h : flash_Device_cell t0 t1 H K) : wCall P n_flash_Device_cell [t0, t1] H K := wCall_of_vcF rfl ((flash_Device_cell_eq t0 t1 H K).mpr h)
def flash_Device_step (t0 : Value) (H : Heap) (K : Value → Heap → Prop) : Prop :=
wJoin (fun J =>
opP (nilCheckA t0) fun t5 =>
opP (offPtr 4 t5) fun t6 =>
opW (loadOne t6 H) fun t7 H4 =>
wIf t7 (
opP (pickA t7 (.bool true) undef) fun t14 =>
opP (nilCheckA t0) fun t15 =>
opP (offPtr 4 t15) fun t16 =>
opW (storeTo 1 t16 t14 H4) fun u H9 =>
J [t0] H9) (
opP (nilCheckA t0) fun t10 =>
opP (offPtr 3 t10) fun t11 =>
opW (loadOne t11 H4) fun t12 H13 =>
opP ((binC P .eql 3 true).f t12 (.int .i64 0)) fun t13 =>
opP (pickA t7 (.bool true) t13) fun t14_1 =>
opP (nilCheckA t0) fun t15_1 =>
opP (offPtr 4 t15_1) fun t16_1 =>
opW (storeTo 1 t16_1 t14_1 H13) fun u_1 H19 =>
J [t0] H19)) (fun l H21 =>
wJoin (fun J_1 =>
wJoin (fun J_2 =>
opP (nilCheckA (nth l 0)) fun t18 =>
opP (offPtr 4 t18) fun t19 =>
opW (loadOne t19 H21) fun t20 H27 =>
opP (unA .not t20) fun t21 =>
wIf t21 (
opP (nilCheckA (nth l 0)) fun t24 =>
opP (offPtr 3 t24) fun t25 =>
opW (loadOne t25 H27) fun t26 H32 =>
opP ((binC P .gtr 3 true).f t26 (.int .i64 0)) fun t27 =>
opP (pickA t21 t27 (.bool false)) fun t28 =>
J_2 [(nth l 0), t28] H32) (
opP (pickA t21 undef (.bool false)) fun t28_1 =>
J_2 [(nth l 0), t28_1] H27)) (fun l_1 H37 =>
wIf (nth l_1 1) (
opP (nilCheckA (nth l_1 0)) fun t30 =>
opP (offPtr 3 t30) fun t31 =>
opW (loadOne t31 H37) fun t32 H41 =>
opP ((binC P .sub 3 true).f t32 (.int .i64 1)) fun t33 =>
opP (nilCheckA (nth l_1 0)) fun t34 =>
opP (offPtr 3 t34) fun t35 =>
opW (storeTo 1 t35 t33 H41) fun u_2 H46 =>
J_1 [(nth l_1 0)] H46) (
J_1 [(nth l_1 0)] H37))) (fun l_2 H48 =>
opP (nilCheckA (nth l_2 0)) fun t37 =>
opP (offPtr 4 t37) fun t38 =>
opW (loadOne t38 H48) fun t39 H52 =>
opP (unA .not t39) fun t40 =>
K t40 H52))
theorem flash_Device_step_eq (t0 : Value) (H : Heap) (K : Value → Heap → Prop) : vcF P n_flash_Device_step [t0] H K = flash_Device_step t0 H K := by kernel_rfl
theorem flash_Device_step_ok {t0 : Value} {H : Heap} {K : Value → Heap → Prop} (h : flash_Device_step t0 H K) : wCall P n_flash_Device_step [t0] H K := wCall_of_vcF rfl ((flash_Device_step_eq t0 H K).mpr h)
def flash_Device_set (t0 t1 t2 : Value) (H : Heap) (K : Value → Heap → Prop) : Prop :=
wNew (cellsL t2) H fun t5 H1 =>
opP (nilCheckA t0) fun t7 =>
opP (offPtr 0 t7) fun t8 =>
opW (loadOne t8 H1) fun t9 H5 =>
opW (loadAgg 64 t5 H5) fun t11 H7 =>
opP (idxSl 129 t9 t1) fun t12 =>
opP (offPtr 64 t12) fun t13 =>
opW (storeTo 64 t13 t11 H7) fun u H11 =>
opP (nilCheckA t0) fun t16 =>
opP (offPtr 1 t16) fun t17 =>
opW (loadOne t17 H11) fun t18 H15 =>
opW (loadAgg 64 t5 H15) fun t20 H17 =>
opP ((buildC P 130).f [(0, t1), (1, t20)]) fun t21 =>
opW ((buildSliceC P 72 1).f [(0, t21)] H17) fun t22 H20 =>
opW (appendWith 65 72 t18 t22 H20) fun t23 H22 =>
opP (nilCheckA t0) fun t24 =>
opP (offPtr 1 t24) fun t25 =>
opW (storeTo 1 t25 t23 H22) fun u_1 H26 =>
K (.tuple [].toArray) H26
theorem flash_Device_set_eq (t0 t1 t2 : Value) (H : Heap) (K : Value → Heap → Prop) : vcF P n_flash_Device_set [t0, t1, t2] H K = flash_Device_set t0 t1 t2 H K := by kernel_rfl
theorem flash_Device_set_ok {t0 t1 t2 : Value} {H : Heap} {K : Value → Heap → Prop} (h : flash_Device_set t0 t1 t2 H K) : wCall P n_flash_Device_set [t0, t1, t2] H K := wCall_of_vcF rfl ((flash_Device_set_eq t0 t1 t2 H K).mpr h)
def flash_Device_Read (t0 t1 : Value) (H : Heap) (K : Value → Heap → Prop) : Prop :=
wNew (zc P 37) H fun t4 H1 =>
wCall P n_flash_Device_cell [t0, t1] H1 fun t9 H3 =>
opP ((binC P .eql 114 true).f t9 (.pointer none)) fun t11 =>
wIf t11 (
opP ((buildC P 37).f []) fun t12 =>
opW (storeTo 64 t4 t12 H3) fun u H7 =>
opW (loadAgg 64 t4 H7) fun r _ =>
K (.tuple [r, (.int .i64 61)].toArray) H7) (
opP (nilCheckA t9) fun t14 =>
opP (offPtr 64 t14) fun t15 =>
opW (loadAgg 64 t15 H3) fun t16 H12 =>
opW (storeTo 64 t4 t16 H12) fun u_1 H14 =>
opW (loadAgg 64 t4 H14) fun r_1 _ =>
K (.tuple [r_1, (.int .i64 0)].toArray) H14)
theorem flash_Device_Read_eq (t0 t1 : Value) (H : Heap) (K : Value → Heap → Prop) : vcF P n_flash_Device_Read [t0, t1] H K = flash_Device_Read t0 t1 H K := by kernel_rfl
theorem flash_Device_Read_ok {t0 t1 : Value} {H : Heap} {K : Value → Heap → Prop} (h : flash_Device_Read t0 t1 H K) : wCall P n_flash_Device_Read [t0, t1] H K := wCall_of_vcF rfl ((flash_Device_Read_eq t0 t1 H K).mpr h)
noncomputable abbrev ref06_Read_P0 : Code := loopAt P n_ref06_Read 0
def ref06_Read_L0 (l : List Value) (H : Heap) (N : List Value → Heap → Prop) (Qx : Nat → List Value → Heap → Prop) (Qr : List Value → Heap → Prop) : Prop :=
opP ((binC P .lss 3 false).f (nth l 6) (nth l 5)) fun t27 =>
wIf t27 (
opP (idxSl 65 (nth l 4) (nth l 6)) fun t28 =>
opW (loadAgg 65 t28 H) fun t29 H3 =>
wNew (zc P 121) H3 fun t8 H5 =>
opW (storeTo 65 t8 t29 H5) fun u H7 =>
opP (offPtr 0 t8) fun t30 =>
opW (loadOne t30 H7) fun t31 H10 =>
opP ((binC P .eql 3 false).f t31 (nth l 0)) fun t33 =>
wIf t33 (
opP (offPtr 1 t8) fun t34 =>
opW (loadAgg 64 t34 H10) fun t35 H14 =>
opW (storeTo 64 (nth l 3) t35 H14) fun u_1 H16 =>
opP ((binC P .add 3 true).f (nth l 6) (.int .i64 1)) fun t36 =>
N [(nth l 0), (nth l 1), (nth l 2), (nth l 3), (nth l 4), (nth l 5), t36] H16) (
opP ((binC P .add 3 true).f (nth l 6) (.int .i64 1)) fun t36_1 =>
N [(nth l 0), (nth l 1), (nth l 2), (nth l 3), (nth l 4), (nth l 5), t36_1] H10)) (
Qx 0 [(nth l 1), (nth l 2), (nth l 3)] H)
theorem ref06_Read_L0_eq (l : List Value) (H : Heap) (N : List Value → Heap → Prop) (Qx : Nat → List Value → Heap → Prop) (Qr : List Value → Heap → Prop) : vcC P true 38 ref06_Read_P0 (live ref06_Read_P0 0 112) 112 (envOf (bits 38 (live ref06_Read_P0 0 112)) l) H (loopQ 38 ref06_Read_P0 112 N Qx Qr) = ref06_Read_L0 l H N Qx Qr := by kernel_rfl
theorem ref06_Read_L0_ind (I : Nat → List Value → Heap → Prop) (Qx : Nat → List Value → Heap → Prop) (Qr : List Value → Heap → Prop) (hs : ∀ k l H, I k l H → ref06_Read_L0 l H (fun l H => ∃ k', k' < k ∧ I k' l H) Qx Qr) (k : Nat) (l : List Value) (H : Heap) (h : I k l H) : wLoop P true 38 ref06_Read_P0 112 l H Qx Qr :=
  loop_ind (by kernel_rfl) I (fun k l H h => (ref06_Read_L0_eq l H _ Qx Qr).mpr (hs k l H h)) k l H h
def ref06_Read (t0 t1 : Value) (H : Heap) (K : Value → Heap → Prop) : Prop :=
wNew (zc P 37) H fun t4 H1 =>
wCall P n_ref06_in [t0, t1] H1 fun t11 H3 =>
opP (unA .not t11) fun t12 =>
wIf t12 (
opP ((buildC P 37).f []) fun t13 =>
opW (storeTo 64 t4 t13 H3) fun u H7 =>
opW (loadAgg 64 t4 H7) fun r _ =>
K (.tuple [r, (.int .i64 61)].toArray) H7) (
opP (nilCheckA t0) fun t15 =>
opP (offPtr 0 t15) fun t16 =>
opW (loadOne t16 H3) fun t17 H12 =>
opP (idxSl 64 t17 t1) fun t19 =>
opW (loadAgg 64 t19 H12) fun t20 H15 =>
wNew (zc P 37) H15 fun t6 H17 =>
opW (storeTo 64 t6 t20 H17) fun u_1 H19 =>
opP (nilCheckA t0) fun t22 =>
opP (offPtr 3 t22) fun t23 =>
opW (loadOne t23 H19) fun t24 H23 =>
opW (lenSl t24 H23) fun t25 H25 =>
wLoop P true 38 ref06_Read_P0 112 [t1, t4, (.int .i64 0), t6, t24, t25, (.int .i64 0)] H25 (fun id l H27 =>
cond (Nat.beq id 0) (
opW (loadAgg 64 (nth l 2) H27) fun t37 H29 =>
opW (storeTo 64 (nth l 0) t37 H29) fun u_2 H31 =>
opW (loadAgg 64 (nth l 0) H31) fun r_1 _ =>
K (.tuple [r_1, (.int .i64 0)].toArray) H31) (
False)) (fun l H27 =>
opW (loadAgg 64 (nth l 0) H27) fun r_2 _ =>
K (.tuple [r_2, (nth l 1)].toArray) H27))
theorem ref06_Read_eq (t0 t1 : Value) (H : Heap) (K : Value → Heap → Prop) : vcF P n_ref06_Read [t0, t1] H K = ref06_Read t0 t1 H K := by kernel_rfl
theorem ref06_Read_ok {t0 t1 : Value} {H : Heap} {K : Value → Heap → Prop} (h : ref06_Read t0 t1 H K) : wCall P n_ref06_Read [t0, t1] H K := wCall_of_vcF rfl ((ref06_Read_eq t0 t1 H K).mpr h)
def ref06_spend (t0 : Value) (H : Heap) (K : Value → Heap → Prop) : Prop :=
wJoin (fun J =>
opP (nilCheckA t0) fun t4 =>
opP (offPtr 4 t4) fun t5 =>
opW (loadOne t5 H) fun t6 H4 =>
wIf t6 (
opP (nilCheckA t0) fun t9 =>
opP (offPtr 5 t9) fun t10 =>
opW (loadOne t10 H4) fun t11 H8 =>
opP ((binC P .eql 3 true).f t11 (.int .i64 0)) fun t12 =>
opP (pickA t6 t12 (.bool false)) fun t13 =>
J [t0, t13] H8) (
opP (pickA t6 undef (.bool false)) fun t13_1 =>
J [t0, t13_1] H4)) (fun l H13 =>
wIf (nth l 1) (
opP (nilCheckA (nth l 0)) fun t15 =>
opP (offPtr 6 t15) fun t16 =>
opW (storeTo 1 t16 (.bool true) H13) fun u H17 =>
K (.bool false) H17) (
opP (nilCheckA (nth l 0)) fun t18 =>
opP (offPtr 4 t18) fun t19 =>
opW (loadOne t19 H13) fun t20 H21 =>
wIf t20 (
opP (nilCheckA (nth l 0)) fun t22 =>
opP (offPtr 5 t22) fun t23 =>
opW (loadOne t23 H21) fun t24 H25 =>
opP ((binC P .sub 3 true).f t24 (.int .i64 1)) fun t25 =>
opP (nilCheckA (nth l 0)) fun t26 =>
opP (offPtr 5 t26) fun t27 =>
opW (storeTo 1 t27 t25 H25) fun u_1 H30 =>
K (.bool true) H30) (
K (.bool true) H21)))
theorem ref06_spend_eq (t0 : Value) (H : Heap) (K : Value → Heap → Prop) : vcF P n_ref06_spend [t0] H K = ref06_spend t0 H K := by kernel_rfl
theorem ref06_spend_ok {t0 : Value} {H : Heap} {K : Value → Heap → Prop} (h : ref06_spend t0 H K) : wCall P n_ref06_spend [t0] H K := wCall_of_vcF rfl ((ref06_spend_eq t0 H K).mpr h)
def digest_New (H : Heap) (K : Value → Heap → Prop) : Prop :=
wCall P n_digest_begin [] H fun t1 H1 =>
opP ((buildC P 137).f [(0, t1)]) fun t2 =>
wNew (cellsL t2) H1 fun t3 H4 =>
K t3 H4
theorem digest_New_eq (H : Heap) (K : Value → Heap → Prop) : vcF P n_digest_New [] H K = digest_New  H K := by kernel_rfl
theorem digest_New_ok {H : Heap} {K : Value → Heap → Prop} (h : digest_New  H K) : wCall P n_digest_New [] H K := wCall_of_vcF rfl ((digest_New_eq  H K).mpr h)
noncomputable abbrev digest_Digest_Write_P0 : Code := loopAt P n_digest_Digest_Write 0
def digest_Digest_Write_L0 (l : List Value) (H : Heap) (N : List Value → Heap → Prop) (Qx : Nat → List Value → Heap → Prop) (Qr : List Value → Heap → Prop) : Prop :=
opP (nilCheckA (nth l 0)) fun t24 =>
opP (offPtr 8 t24) fun t25 =>
opW (loadOne t25 H) fun t26 H3 =>
opW (lenSl t26 H3) fun t27 H5 =>
opP ((binC P .geq 3 true).f t27 (.int .i64 64)) fun t28 =>
wIf t28 (
opP (nilCheckA (nth l 0)) fun t31 =>
opP (offPtr 0 t31) fun t32 =>
opW (loadAgg 8 t32 H5) fun t33 H10 =>
opP (nilCheckA (nth l 0)) fun t35 =>
opP (offPtr 8 t35) fun t36 =>
opW (loadOne t36 H10) fun t37 H14 =>
opP (sliceSl 1 t37 none (some (.int .i64 64)) none) fun t38 =>
wCall P n_digest_words_mix [t33, t38] H14 fun t39 H17 =>
opP (nilCheckA (nth l 0)) fun t40 =>
opP (offPtr 0 t40) fun t41 =>
opW (storeTo 8 t41 t39 H17) fun u H21 =>
opP (nilCheckA (nth l 0)) fun t44 =>
opP (offPtr 8 t44) fun t45 =>
opW (loadOne t45 H21) fun t46 H25 =>
opP (sliceSl 1 t46 (some (.int .i64 64)) none none) fun t47 =>
opP (nilCheckA (nth l 0)) fun t48 =>
opP (offPtr 8 t48) fun t49 =>
opW (storeTo 1 t49 t47 H25) fun u_1 H30 =>
N [(nth l 0)] H30) (
Qx 0 [] H5)
theorem digest_Digest_Write_L0_eq (l : List Value) (H : Heap) (N : List Value → Heap → Prop) (Qx : Nat → List Value → Heap → Prop) (Qr : List Value → Heap → Prop) : vcC P true 50 digest_Digest_Write_P0 (live digest_Digest_Write_P0 0 0) 0 (envOf (bits 50 (live digest_Digest_Write_P0 0 0)) l) H (loopQ 50 digest_Digest_Write_P0 0 N Qx Qr) = digest_Digest_Write_L0 l H N Qx Qr := by kernel_rfl
theorem digest_Digest_Write_L0_ind (I : Nat → List Value → Heap → Prop) (Qx : Nat → List Value → Heap → Prop) (Qr : List Value → Heap → Prop) (hs : ∀ k l H, I k l H → digest_Digest_Write_L0 l H (fun l H => ∃ k', k' < k ∧ I k' l H) Qx Qr) (k : Nat) (l : List Value) (H : Heap) (h : I k l H) : wLoop P true 50 digest_Digest_Write_P0 0 l H Qx Qr :=
  loop_ind (by kernel_rfl) I (fun k l H h => (digest_Digest_Write_L0_eq l H _ Qx Qr).mpr (hs k l H h)) k l H h
def digest_Digest_Write (t0 t1 : Value) (H : Heap) (K : Value → Heap → Prop) : Prop :=
opP (nilCheckA t0) fun t5 =>
opP (offPtr 9 t5) fun t6 =>
opW (loadOne t6 H) fun t7 H3 =>
opW (lenSl t1 H3) fun t9 H5 =>
opW (cvInt .u64 t9 H5) fun t10 H7 =>
opP ((binC P .add 23 false).f t7 t10) fun t11 =>
opP (nilCheckA t0) fun t12 =>
opP (offPtr 9 t12) fun t13 =>
opW (storeTo 1 t13 t11 H7) fun u H12 =>
opP (nilCheckA t0) fun t16 =>
opP (offPtr 8 t16) fun t17 =>
opW (loadOne t17 H12) fun t18 H16 =>
opW (appendWith 1 1 t18 t1 H16) fun t20 H18 =>
opP (nilCheckA t0) fun t21 =>
opP (offPtr 8 t21) fun t22 =>
opW (storeTo 1 t22 t20 H18) fun u_1 H22 =>
wLoop P true 50 digest_Digest_Write_P0 0 [t0] H22 (fun id l H24 =>
cond (Nat.beq id 0) (
K (.tuple [].toArray) H24) (
False)) (fun l H24 =>
K (.tuple [].toArray) H24)
theorem digest_Digest_Write_eq (t0 t1 : Value) (H : Heap) (K : Value → Heap → Prop) : vcF P n_digest_Digest_Write [t0, t1] H K = digest_Digest_Write t0 t1 H K := by kernel_rfl
theorem digest_Digest_Write_ok {t0 t1 : Value} {H : Heap} {K : Value → Heap → Prop} (h : digest_Digest_Write t0 t1 H K) : wCall P n_digest_Digest_Write [t0, t1] H K := wCall_of_vcF rfl ((digest_Digest_Write_eq t0 t1 H K).mpr h)
noncomputable abbrev digest_Digest_Sum_P0 : Code := loopAt P n_digest_Digest_Sum 0
noncomputable abbrev digest_Digest_Sum_P1 : Code := loopAt P n_digest_Digest_Sum 1
noncomputable abbrev digest_Digest_Sum_P2 : Code := loopAt P n_digest_Digest_Sum 2
noncomputable abbrev digest_Digest_Sum_P3 : Code := loopAt P n_digest_Digest_Sum 3
def digest_Digest_Sum_L0 (l : List Value) (H : Heap) (N : List Value → Heap → Prop) (Qx : Nat → List Value → Heap → Prop) (Qr : List Value → Heap → Prop) : Prop :=
opP (nilCheckA (nth l 1)) fun t21 =>
opP (offPtr 8 t21) fun t22 =>
opW (loadOne t22 H) fun t23 H3 =>
opW (lenSl t23 H3) fun t24 H5 =>
opP ((binC P .neq 3 true).f t24 (.int .i64 56)) fun t25 =>
wIf t25 (
opW ((buildSliceC P 22 1).f [(0, (.int .u8 0))] H5) fun t27 H8 =>
wCall P n_digest_Digest_Write [(nth l 1), t27] H8 fun t28 H10 =>
N [(nth l 0), (nth l 1), (nth l 2)] H10) (
Qx 0 [(nth l 0), (nth l 1), (nth l 2)] H5)
theorem digest_Digest_Sum_L0_eq (l : List Value) (H : Heap) (N : List Value → Heap → Prop) (Qx : Nat → List Value → Heap → Prop) (Qr : List Value → Heap → Prop) : vcC P true 67 digest_Digest_Sum_P0 (live digest_Digest_Sum_P0 0 28) 28 (envOf (bits 67 (live digest_Digest_Sum_P0 0 28)) l) H (loopQ 67 digest_Digest_Sum_P0 28 N Qx Qr) = digest_Digest_Sum_L0 l H N Qx Qr := by kernel_rfl
theorem digest_Digest_Sum_L0_ind (I : Nat → List Value → Heap → Prop) (Qx : Nat → List Value → Heap → Prop) (Qr : List Value → Heap → Prop) (hs : ∀ k l H, I k l H → digest_Digest_Sum_L0 l H (fun l H => ∃ k', k' < k ∧ I k' l H) Qx Qr) (k : Nat) (l : List Value) (H : Heap) (h : I k l H) : wLoop P true 67 digest_Digest_Sum_P0 28 l H Qx Qr :=
  loop_ind (by kernel_rfl) I (fun k l H h => (digest_Digest_Sum_L0_eq l H _ Qx Qr).mpr (hs k l H h)) k l H h
def digest_Digest_Sum_L1 (l : List Value) (H : Heap) (N : List Value → Heap → Prop) (Qx : Nat → List Value → Heap → Prop) (Qr : List Value → Heap → Prop) : Prop :=
opP ((binC P .lss 3 true).f (nth l 3) (.int .i64 8)) fun t30 =>
wIf t30 (
opP ((binC P .mul 3 true).f (.int .i64 8) (nth l 3)) fun t35 =>
opP ((binC P .sub 3 true).f (.int .i64 56) t35) fun t36 =>
opP ((binC P .shr 23 false).f (nth l 2) t36) fun t37 =>
opW (cvInt .u8 t37 H) fun t38 H5 =>
opW ((buildSliceC P 22 1).f [(0, t38)] H5) fun t39 H7 =>
wCall P n_digest_Digest_Write [(nth l 1), t39] H7 fun t40 H9 =>
opP ((binC P .add 3 true).f (nth l 3) (.int .i64 1)) fun t41 =>
N [(nth l 0), (nth l 1), (nth l 2), t41] H9) (
Qx 2 [(nth l 0), (nth l 1)] H)
theorem digest_Digest_Sum_L1_eq (l : List Value) (H : Heap) (N : List Value → Heap → Prop) (Qx : Nat → List Value → Heap → Prop) (Qr : List Value → Heap → Prop) : vcC P true 67 digest_Digest_Sum_P1 (live digest_Digest_Sum_P1 0 12) 12 (envOf (bits 67 (live digest_Digest_Sum_P1 0 12)) l) H (loopQ 67 digest_Digest_Sum_P1 12 N Qx Qr) = digest_Digest_Sum_L1 l H N Qx Qr := by kernel_rfl
theorem digest_Digest_Sum_L1_ind (I : Nat → List Value → Heap → Prop) (Qx : Nat → List Value → Heap → Prop) (Qr : List Value → Heap → Prop) (hs : ∀ k l H, I k l H → digest_Digest_Sum_L1 l H (fun l H => ∃ k', k' < k ∧ I k' l H) Qx Qr) (k : Nat) (l : List Value) (H : Heap) (h : I k l H) : wLoop P true 67 digest_Digest_Sum_P1 12 l H Qx Qr :=
  loop_ind (by kernel_rfl) I (fun k l H h => (digest_Digest_Sum_L1_eq l H _ Qx Qr).mpr (hs k l H h)) k l H h
def digest_Digest_Sum_L2 (l : List Value) (H : Heap) (N : List Value → Heap → Prop) (Qx : Nat → List Value → Heap → Prop) (Qr : List Value → Heap → Prop) : Prop :=
opP ((binC P .lss 3 true).f (nth l 3) (.int .i64 8)) fun t47 =>
wIf t47 (
opP (idxAgg 8 1 (partC P 132).f (nth l 2) (nth l 3)) fun t49 =>
wLoop P true 67 digest_Digest_Sum_P3 105553116266564 [(nth l 0), (nth l 1), (nth l 3), t49, (nth l 2), (nth l 3), (.int .i64 0)] H (fun id l_1 H3 =>
cond (Nat.beq id 6) (
opP ((binC P .add 3 true).f (nth l_1 3) (.int .i64 1)) fun t65 =>
N [(nth l_1 0), (nth l_1 1), (nth l_1 2), t65] H3) (
cond (Nat.beq id 5) (
opP ((binC P .add 3 true).f (nth l_1 3) (.int .i64 1)) fun t65_1 =>
N [(nth l_1 0), (nth l_1 1), (nth l_1 2), t65_1] H3) (
Qx id [(nth l_1 0), (nth l_1 1)] H3))) (fun l_1 H3 =>
Qr [(nth l_1 0), (nth l_1 1)] H3)) (
Qx 4 [(nth l 0), (nth l 1)] H)
theorem digest_Digest_Sum_L2_eq (l : List Value) (H : Heap) (N : List Value → Heap → Prop) (Qx : Nat → List Value → Heap → Prop) (Qr : List Value → Heap → Prop) : vcC P true 67 digest_Digest_Sum_P2 (live digest_Digest_Sum_P2 0 68) 68 (envOf (bits 67 (live digest_Digest_Sum_P2 0 68)) l) H (loopQ 67 digest_Digest_Sum_P2 68 N Qx Qr) = digest_Digest_Sum_L2 l H N Qx Qr := by kernel_rfl
theorem digest_Digest_Sum_L2_ind (I : Nat → List Value → Heap → Prop) (Qx : Nat → List Value → Heap → Prop) (Qr : List Value → Heap → Prop) (hs : ∀ k l H, I k l H → digest_Digest_Sum_L2 l H (fun l H => ∃ k', k' < k ∧ I k' l H) Qx Qr) (k : Nat) (l : List Value) (H : Heap) (h : I k l H) : wLoop P true 67 digest_Digest_Sum_P2 68 l H Qx Qr :=
  loop_ind (by kernel_rfl) I (fun k l H h => (digest_Digest_Sum_L2_eq l H _ Qx Qr).mpr (hs k l H h)) k l H h
def digest_Digest_Sum_L3 (l : List Value) (H : Heap) (N : List Value → Heap → Prop) (Qx : Nat → List Value → Heap → Prop) (Qr : List Value → Heap → Prop) : Prop :=
opP ((binC P .lss 3 true).f (nth l 6) (.int .i64 4)) fun t51 =>
wIf t51 (
opP ((binC P .mul 3 true).f (.int .i64 4) (nth l 2)) fun t54 =>
opP ((binC P .add 3 false).f t54 (nth l 6)) fun t56 =>
opP ((binC P .mul 3 true).f (.int .i64 8) (nth l 6)) fun t59 =>
opP ((binC P .sub 3 true).f (.int .i64 24) t59) fun t60 =>
opP ((binC P .shr 132 false).f (nth l 3) t60) fun t61 =>
opW (cvInt .u8 t61 H) fun t62 H7 =>
opP (idxPtr 32 1 (nth l 1) t56) fun t63 =>
opW (storeTo 1 t63 t62 H7) fun u H10 =>
opP ((binC P .add 3 true).f (nth l 6) (.int .i64 1)) fun t64 =>
N [(nth l 0), (nth l 1), (nth l 2), (nth l 3), (nth l 4), (nth l 5), t64] H10) (
Qx 6 [(nth l 0), (nth l 1), (nth l 4), (nth l 5)] H)
theorem digest_Digest_Sum_L3_eq (l : List Value) (H : Heap) (N : List Value → Heap → Prop) (Qx : Nat → List Value → Heap → Prop) (Qr : List Value → Heap → Prop) : vcC P true 67 digest_Digest_Sum_P3 (live digest_Digest_Sum_P3 0 105553116266564) 105553116266564 (envOf (bits 67 (live digest_Digest_Sum_P3 0 105553116266564)) l) H (loopQ 67 digest_Digest_Sum_P3 105553116266564 N Qx Qr) = digest_Digest_Sum_L3 l H N Qx Qr := by kernel_rfl
theorem digest_Digest_Sum_L3_ind (I : Nat → List Value → Heap → Prop) (Qx : Nat → List Value → Heap → Prop) (Qr : List Value → Heap → Prop) (hs : ∀ k l H, I k l H → digest_Digest_Sum_L3 l H (fun l H => ∃ k', k' < k ∧ I k' l H) Qx Qr) (k : Nat) (l : List Value) (H : Heap) (h : I k l H) : wLoop P true 67 digest_Digest_Sum_P3 105553116266564 l H Qx Qr :=
  loop_ind (by kernel_rfl) I (fun k l H h => (digest_Digest_Sum_L3_eq l H _ Qx Qr).mpr (hs k l H h)) k l H h
def digest_Digest_Sum (t0 : Value) (H : Heap) (K : Value → Heap → Prop) : Prop :=
wNew (zc P 25) H fun t2 H1 =>
wCall P n_digest_Digest_Copy [t0] H1 fun t11 H3 =>
opP (nilCheckA t11) fun t13 =>
opP (offPtr 9 t13) fun t14 =>
opW (loadOne t14 H3) fun t15 H7 =>
opP ((binC P .mul 23 true).f t15 (.int .u64 8)) fun t16 =>
opW ((buildSliceC P 22 1).f [(0, (.int .u8 128))] H7) fun t18 H10 =>
wCall P n_digest_Digest_Write [t11, t18] H10 fun t19 H12 =>
wLoop P true 67 digest_Digest_Sum_P0 28 [t2, t11, t16] H12 (fun id l H14 =>
cond (Nat.beq id 0) (
wLoop P true 67 digest_Digest_Sum_P1 12 [(nth l 0), (nth l 1), (nth l 2), (.int .i64 0)] H14 (fun id l_1 H16 =>
cond (Nat.beq id 2) (
wNew (zc P 25) H16 fun t6 H18 =>
opP (nilCheckA (nth l_1 1)) fun t43 =>
opP (offPtr 0 t43) fun t44 =>
opW (loadAgg 8 t44 H18) fun t45 H22 =>
wLoop P true 67 digest_Digest_Sum_P2 68 [(nth l_1 0), t6, t45, (.int .i64 0)] H22 (fun id l_2 H24 =>
cond (Nat.beq id 4) (
opW (loadAgg 32 (nth l_2 1) H24) fun t66 H26 =>
opW (storeTo 32 (nth l_2 0) t66 H26) fun u H28 =>
opW (loadAgg 32 (nth l_2 0) H28) fun r _ =>
K r H28) (
False)) (fun l_2 H24 =>
opW (loadAgg 32 (nth l_2 0) H24) fun r_1 _ =>
K r_1 H24)) (
False)) (fun l_1 H16 =>
opW (loadAgg 32 (nth l_1 0) H16) fun r_2 _ =>
K r_2 H16)) (
False)) (fun l H14 =>
opW (loadAgg 32 (nth l 0) H14) fun r_3 _ =>
K r_3 H14)
theorem digest_Digest_Sum_eq (t0 : Value) (H : Heap) (K : Value → Heap → Prop) : vcF P n_digest_Digest_Sum [t0] H K = digest_Digest_Sum t0 H K := by kernel_rfl
theorem digest_Digest_Sum_ok {t0 : Value} {H : Heap} {K : Value → Heap → Prop} (h : digest_Digest_Sum t0 H K) : wCall P n_digest_Digest_Sum [t0] H K := wCall_of_vcF rfl ((digest_Digest_Sum_eq t0 H K).mpr h)
def ref06_in (t0 t1 : Value) (H : Heap) (K : Value → Heap → Prop) : Prop :=
opP ((binC P .geq 3 true).f t1 (.int .i64 0)) fun t6 =>
wIf t6 (
opP (nilCheckA t0) fun t10 =>
opP (offPtr 0 t10) fun t11 =>
opW (loadOne t11 H) fun t12 H4 =>
opW (lenSl t12 H4) fun t13 H6 =>
opP ((binC P .lss 3 false).f t1 t13) fun t14 =>
opP (pickA t6 t14 (.bool false)) fun t15 =>
K t15 H6) (
opP (pickA t6 undef (.bool false)) fun t15_1 =>
K t15_1 H)
theorem ref06_in_eq (t0 t1 : Value) (H : Heap) (K : Value → Heap → Prop) : vcF P n_ref06_in [t0, t1] H K = ref06_in t0 t1 H K := by kernel_rfl
theorem ref06_in_ok {t0 t1 : Value} {H : Heap} {K : Value → Heap → Prop} (h : ref06_in t0 t1 H K) : wCall P n_ref06_in [t0, t1] H K := wCall_of_vcF rfl ((ref06_in_eq t0 t1 H K).mpr h)
def digest_begin (H : Heap) (K : Value → Heap → Prop) : Prop :=
wNew (zc P 134) H fun t0 H1 =>
opP ((buildC P 134).f [(0, (.int .u32 1779033703)), (1, (.int .u32 3144134277)), (2, (.int .u32 1013904242)), (3, (.int .u32 2773480762)), (4, (.int .u32 1359893119)), (5, (.int .u32 2600822924)), (6, (.int .u32 528734635)), (7, (.int .u32 1541459225))]) fun t1 =>
opW (storeTo 8 t0 t1 H1) fun u H4 =>
opW (loadAgg 8 t0 H4) fun r _ =>
K r H4
theorem digest_begin_eq (H : Heap) (K : Value → Heap → Prop) : vcF P n_digest_begin [] H K = digest_begin  H K := by kernel_rfl
theorem digest_begin_ok {H : Heap} {K : Value → Heap → Prop} (h : digest_begin  H K) : wCall P n_digest_begin [] H K := wCall_of_vcF rfl ((digest_begin_eq  H K).mpr h)
noncomputable abbrev digest_words_mix_P0 : Code := loopAt P n_digest_words_mix 0
noncomputable abbrev digest_words_mix_P1 : Code := loopAt P n_digest_words_mix 1
def digest_words_mix_L0 (l : List Value) (H : Heap) (N : List Value → Heap → Prop) (Qx : Nat → List Value → Heap → Prop) (Qr : List Value → Heap → Prop) : Prop :=
opP ((binC P .lss 3 true).f (nth l 5) (.int .i64 64)) fun t19 =>
wIf t19 (
opP (idxPtr 8 1 (nth l 4) (.int .i64 0)) fun t21 =>
opW (loadOne t21 H) fun t22 H3 =>
opP (idxPtr 8 1 (nth l 4) (.int .i64 4)) fun t23 =>
opW (loadOne t23 H3) fun t24 H6 =>
opP (idxPtr 8 1 (nth l 4) (.int .i64 7)) fun t25 =>
opW (loadOne t25 H6) fun t26 H9 =>
opW ((buildSliceC P 43 3).f [(0, (.int .i64 6)), (1, (.int .i64 11)), (2, (.int .i64 25))] H9) fun t28 H11 =>
wCall P n_digest_turn [t24, t28] H11 fun t29 H13 =>
cSame (sameB H11 H13) (idsOf [t25]) ∧ (opP ((binC P .add 132 false).f t26 t29) fun t30 =>
opP (idxPtr 8 1 (nth l 4) (.int .i64 5)) fun t32 =>
opW (loadOne t32 H13) fun t33 H17 =>
cSame (sameB H11 H13) (idsOf [t32]) ∧ (cOut (idsOf [t32]) H9.next H11.next ∧ (opP ((binC P .and 132 false).f t24 t33) fun t34 =>
opP (unA .xor t24) fun t36 =>
opP (idxPtr 8 1 (nth l 4) (.int .i64 6)) fun t37 =>
opW (loadOne t37 H17) fun t38 H22 =>
cSame (sameB H11 H13) (idsOf [t37]) ∧ (cOut (idsOf [t37]) H9.next H11.next ∧ (opP ((binC P .and 132 false).f t36 t38) fun t39 =>
opP ((binC P .xor 132 false).f t34 t39) fun t40 =>
opP ((binC P .add 132 false).f t30 t40) fun t41 =>
opP (nilCheckA (nth l 3)) fun t44 =>
opP (idxPtr 64 1 t44 (nth l 5)) fun t45 =>
opW (loadOne t45 H22) fun t46 H29 =>
cSame (sameB H11 H13) (idsOf [t45]) ∧ (cOut (idsOf [t45]) H9.next H11.next ∧ (opP ((binC P .add 132 false).f t41 t46) fun t47 =>
opP (idxPtr 64 1 (nth l 2) (nth l 5)) fun t49 =>
opW (loadOne t49 H29) fun t50 H33 =>
cSame (sameB H11 H13) (idsOf [t49]) ∧ (cOut (idsOf [t49]) H9.next H11.next ∧ (opP ((binC P .add 132 false).f t47 t50) fun t51 =>
opW ((buildSliceC P 43 3).f [(0, (.int .i64 2)), (1, (.int .i64 13)), (2, (.int .i64 22))] H33) fun t53 H36 =>
wCall P n_digest_turn [t22, t53] H36 fun t54 H38 =>
opP (idxPtr 8 1 (nth l 4) (.int .i64 1)) fun t56 =>
opW (loadOne t56 H38) fun t57 H41 =>
cSame (sameB H36 H38) (idsOf [t56]) ∧ (cOut (idsOf [t56]) H33.next H36.next ∧ (opP ((binC P .and 132 false).f t22 t57) fun t58 =>
opP (idxPtr 8 1 (nth l 4) (.int .i64 2)) fun t60 =>
opW (loadOne t60 H41) fun t61 H45 =>
cSame (sameB H36 H38) (idsOf [t60]) ∧ (cOut (idsOf [t60]) H33.next H36.next ∧ (opP ((binC P .and 132 false).f t22 t61) fun t62 =>
opP ((binC P .xor 132 false).f t58 t62) fun t63 =>
opP (idxPtr 8 1 (nth l 4) (.int .i64 1)) fun t64 =>
opW (loadOne t64 H45) fun t65 H50 =>
cSame (sameB H36 H38) (idsOf [t64]) ∧ (cOut (idsOf [t64]) H33.next H36.next ∧ (opP (idxPtr 8 1 (nth l 4) (.int .i64 2)) fun t66 =>
opW (loadOne t66 H50) fun t67 H53 =>
cSame (sameB H36 H38) (idsOf [t66]) ∧ (cOut (idsOf [t66]) H33.next H36.next ∧ (opP ((binC P .and 132 false).f t65 t67) fun t68 =>
opP ((binC P .xor 132 false).f t63 t68) fun t69 =>
opP ((binC P .add 132 false).f t54 t69) fun t70 =>
opP (sliceArr 8 1 (nth l 4) (some (.int .i64 1)) none none H53) fun t71 =>
opP (sliceArr 8 1 (nth l 4) none (some (.int .i64 7)) none H53) fun t72 =>
opW (copyTo 1 t71 t72 H53) fun t73 H60 =>
opP (idxPtr 8 1 (nth l 4) (.int .i64 4)) fun t74 =>
opW (loadOne t74 H60) fun t75 H63 =>
opP ((binC P .add 132 false).f t75 t51) fun t77 =>
opP (idxPtr 8 1 (nth l 4) (.int .i64 4)) fun t78 =>
opW (storeTo 1 t78 t77 H63) fun u H67 =>
opP ((binC P .add 132 false).f t51 t70) fun t81 =>
opP (idxPtr 8 1 (nth l 4) (.int .i64 0)) fun t82 =>
opW (storeTo 1 t82 t81 H67) fun u_1 H71 =>
opP ((binC P .add 3 true).f (nth l 5) (.int .i64 1)) fun t83 =>
N [(nth l 0), (nth l 1), (nth l 2), (nth l 3), (nth l 4), t83] H71)))))))))))))))))) (
Qx 0 [(nth l 0), (nth l 1), (nth l 4)] H)
theorem digest_words_mix_L0_eq (l : List Value) (H : Heap) (N : List Value → Heap → Prop) (Qx : Nat → List Value → Heap → Prop) (Qr : List Value → Heap → Prop) : vcC P true 97 digest_words_mix_P0 (live digest_words_mix_P0 0 148) 148 (envOf (bits 97 (live digest_words_mix_P0 0 148)) l) H (loopQ 97 digest_words_mix_P0 148 N Qx Qr) = digest_words_mix_L0 l H N Qx Qr := by kernel_rfl
theorem digest_words_mix_L0_ind (I : Nat → List Value → Heap → Prop) (Qx : Nat → List Value → Heap → Prop) (Qr : List Value → Heap → Prop) (hs : ∀ k l H, I k l H → digest_words_mix_L0 l H (fun l H => ∃ k', k' < k ∧ I k' l H) Qx Qr) (k : Nat) (l : List Value) (H : Heap) (h : I k l H) : wLoop P true 97 digest_words_mix_P0 148 l H Qx Qr :=
  loop_ind (by kernel_rfl) I (fun k l H h => (digest_words_mix_L0_eq l H _ Qx Qr).mpr (hs k l H h)) k l H h
def digest_words_mix_L1 (l : List Value) (H : Heap) (N : List Value → Heap → Prop) (Qx : Nat → List Value → Heap → Prop) (Qr : List Value → Heap → Prop) : Prop :=
opP ((binC P .lss 3 true).f (nth l 3) (.int .i64 8)) fun t85 =>
wIf t85 (
opP (idxPtr 8 1 (nth l 0) (nth l 3)) fun t88 =>
opW (loadOne t88 H) fun t89 H3 =>
opP (idxPtr 8 1 (nth l 2) (nth l 3)) fun t91 =>
opW (loadOne t91 H3) fun t92 H6 =>
opP ((binC P .add 132 false).f t89 t92) fun t93 =>
opP (idxPtr 8 1 (nth l 0) (nth l 3)) fun t94 =>
opW (storeTo 1 t94 t93 H6) fun u H10 =>
opP ((binC P .add 3 true).f (nth l 3) (.int .i64 1)) fun t95 =>
N [(nth l 0), (nth l 1), (nth l 2), t95] H10) (
Qx 2 [(nth l 0), (nth l 1)] H)
theorem digest_words_mix_L1_eq (l : List Value) (H : Heap) (N : List Value → Heap → Prop) (Qx : Nat → List Value → Heap → Prop) (Qr : List Value → Heap → Prop) : vcC P true 97 digest_words_mix_P1 (live digest_words_mix_P1 0 20) 20 (envOf (bits 97 (live digest_words_mix_P1 0 20)) l) H (loopQ 97 digest_words_mix_P1 20 N Qx Qr) = digest_words_mix_L1 l H N Qx Qr := by kernel_rfl
theorem digest_words_mix_L1_ind (I : Nat → List Value → Heap → Prop) (Qx : Nat → List Value → Heap → Prop) (Qr : List Value → Heap → Prop) (hs : ∀ k l H, I k l H → digest_words_mix_L1 l H (fun l H => ∃ k', k' < k ∧ I k' l H) Qx Qr) (k : Nat) (l : List Value) (H : Heap) (h : I k l H) : wLoop P true 97 digest_words_mix_P1 20 l H Qx Qr :=
  loop_ind (by kernel_rfl) I (fun k l H h => (digest_words_mix_L1_eq l H _ Qx Qr).mpr (hs k l H h)) k l H h
def digest_words_mix (t0 t1 : Value) (H : Heap) (K : Value → Heap → Prop) : Prop :=
wNew (cellsL t0) H fun t2 H1 =>
wNew (zc P 134) H1 fun t4 H3 =>
wCall P n_digest_spread [t1] H3 fun t15 H5 =>
wCall P n_digest_table [] H5 fun t16 H7 =>
wNew (zc P 139) H7 fun t5 H9 =>
opW (storeTo 64 t5 t15 H9) fun u H11 =>
opW (loadAgg 8 t2 H11) fun t17 H13 =>
wNew (zc P 134) H13 fun t7 H15 =>
opW (storeTo 8 t7 t17 H15) fun u_1 H17 =>
wLoop P true 97 digest_words_mix_P0 148 [t2, t4, t5, t16, t7, (.int .i64 0)] H17 (fun id l H19 =>
cond (Nat.beq id 0) (
wLoop P true 97 digest_words_mix_P1 20 [(nth l 0), (nth l 1), (nth l 2), (.int .i64 0)] H19 (fun id l_1 H21 =>
cond (Nat.beq id 2) (
opW (loadAgg 8 (nth l_1 0) H21) fun t96 H23 =>
opW (storeTo 8 (nth l_1 1) t96 H23) fun u_2 H25 =>
opW (loadAgg 8 (nth l_1 1) H25) fun r _ =>
K r H25) (
False)) (fun l_1 H21 =>
opW (loadAgg 8 (nth l_1 1) H21) fun r_1 _ =>
K r_1 H21)) (
False)) (fun l H19 =>
opW (loadAgg 8 (nth l 1) H19) fun r_2 _ =>
K r_2 H19)
theorem digest_words_mix_eq (t0 t1 : Value) (H : Heap) (K : Value → Heap → Prop) : vcF P n_digest_words_mix [t0, t1] H K = digest_words_mix t0 t1 H K := by kernel_rfl
theorem digest_words_mix_ok {t0 t1 : Value} {H : Heap} {K : Value → Heap → Prop} (h : digest_words_mix t0 t1 H K) : wCall P n_digest_words_mix [t0, t1] H K := wCall_of_vcF rfl ((digest_words_mix_eq t0 t1 H K).mpr h)
def digest_Digest_Copy (t0 : Value) (H : Heap) (K : Value → Heap → Prop) : Prop :=
opP (nilCheckA t0) fun t4 =>
opP (offPtr 0 t4) fun t5 =>
opW (loadAgg 8 t5 H) fun t6 H3 =>
opP (nilCheckA t0) fun t8 =>
opP (offPtr 8 t8) fun t9 =>
opW (loadOne t9 H3) fun t10 H7 =>
opW (appendWith 1 1 (.slice none 0 0) t10 H7) fun t11 H9 =>
cApart (idsOf [t5]) (idsOf [(.slice none 0 0), t10]) ∧ (opP (nilCheckA t0) fun t13 =>
opP (offPtr 9 t13) fun t14 =>
opW (loadOne t14 H9) fun t15 H13 =>
cApart (idsOf [(.slice none 0 0), t10]) (idsOf [t14]) ∧ cOut (idsOf [t14]) H7.next H9.next ∧ (opP ((buildC P 137).f [(0, t6), (1, t11), (2, t15)]) fun t16 =>
wNew (cellsL t16) H13 fun t17 H16 =>
K t17 H16))
theorem digest_Digest_Copy_eq (t0 : Value) (H : Heap) (K : Value → Heap → Prop) : vcF P n_digest_Digest_Copy [t0] H K = digest_Digest_Copy t0 H K := by kernel_rfl
theorem digest_Digest_Copy_ok {t0 : Value} {H : Heap} {K : Value → Heap → Prop} (h : digest_Digest_Copy t0 H K) : wCall P n_digest_Digest_Copy [t0] H K := wCall_of_vcF rfl ((digest_Digest_Copy_eq t0 H K).mpr h)
noncomputable abbrev digest_spread_P0 : Code := loopAt P n_digest_spread 0
def digest_spread_L0 (l : List Value) (H : Heap) (N : List Value → Heap → Prop) (Qx : Nat → List Value → Heap → Prop) (Qr : List Value → Heap → Prop) : Prop :=
opP ((binC P .lss 3 true).f (nth l 3) (.int .i64 64)) fun t8 =>
wIf t8 (
opP ((binC P .lss 3 true).f (nth l 3) (.int .i64 16)) fun t11 =>
wIf t11 (
opP ((binC P .mul 3 true).f (.int .i64 4) (nth l 3)) fun t15 =>
opP (idxSl 1 (nth l 0) t15) fun t16 =>
opW (loadOne t16 H) fun t17 H5 =>
opW (cvInt .u32 t17 H5) fun t18 H7 =>
opP ((binC P .shl 132 true).f t18 (.int .u64 24)) fun t19 =>
opP ((binC P .mul 3 true).f (.int .i64 4) (nth l 3)) fun t22 =>
opP ((binC P .add 3 true).f t22 (.int .i64 1)) fun t23 =>
opP (idxSl 1 (nth l 0) t23) fun t24 =>
opW (loadOne t24 H7) fun t25 H13 =>
opW (cvInt .u32 t25 H13) fun t26 H15 =>
opP ((binC P .shl 132 true).f t26 (.int .u64 16)) fun t27 =>
opP ((binC P .or 132 false).f t19 t27) fun t28 =>
opP ((binC P .mul 3 true).f (.int .i64 4) (nth l 3)) fun t31 =>
opP ((binC P .add 3 true).f t31 (.int .i64 2)) fun t32 =>
opP (idxSl 1 (nth l 0) t32) fun t33 =>
opW (loadOne t33 H15) fun t34 H22 =>
opW (cvInt .u32 t34 H22) fun t35 H24 =>
opP ((binC P .shl 132 true).f t35 (.int .u64 8)) fun t36 =>
opP ((binC P .or 132 false).f t28 t36) fun t37 =>
opP ((binC P .mul 3 true).f (.int .i64 4) (nth l 3)) fun t40 =>
opP ((binC P .add 3 true).f t40 (.int .i64 3)) fun t41 =>
opP (idxSl 1 (nth l 0) t41) fun t42 =>
opW (loadOne t42 H24) fun t43 H31 =>
opW (cvInt .u32 t43 H31) fun t44 H33 =>
opP ((binC P .or 132 false).f t37 t44) fun t45 =>
opP (idxPtr 64 1 (nth l 2) (nth l 3)) fun t46 =>
opW (storeTo 1 t46 t45 H33) fun u H37 =>
opP ((binC P .add 3 true).f (nth l 3) (.int .i64 1)) fun t80 =>
N [(nth l 0), (nth l 1), (nth l 2), t80] H37) (
opP ((binC P .sub 3 true).f (nth l 3) (.int .i64 15)) fun t48 =>
opP (idxPtr 64 1 (nth l 2) t48) fun t49 =>
opW (loadOne t49 H) fun t50 H42 =>
opP ((binC P .sub 3 true).f (nth l 3) (.int .i64 2)) fun t52 =>
opP (idxPtr 64 1 (nth l 2) t52) fun t53 =>
opW (loadOne t53 H42) fun t54 H46 =>
opP ((binC P .sub 3 true).f (nth l 3) (.int .i64 16)) fun t57 =>
opP (idxPtr 64 1 (nth l 2) t57) fun t58 =>
opW (loadOne t58 H46) fun t59 H50 =>
opW ((buildSliceC P 43 2).f [(0, (.int .i64 7)), (1, (.int .i64 18))] H50) fun t61 H52 =>
wCall P n_digest_turn [t50, t61] H52 fun t62 H54 =>
cSame (sameB H52 H54) (idsOf [t58]) ∧ (opP ((binC P .shr 132 true).f t50 (.int .u64 3)) fun t64 =>
opP ((binC P .xor 132 false).f t62 t64) fun t65 =>
opP ((binC P .add 132 false).f t59 t65) fun t66 =>
opP ((binC P .sub 3 true).f (nth l 3) (.int .i64 7)) fun t68 =>
opP (idxPtr 64 1 (nth l 2) t68) fun t69 =>
opW (loadOne t69 H54) fun t70 H61 =>
cSame (sameB H52 H54) (idsOf [t69]) ∧ (cOut (idsOf [t69]) H50.next H52.next ∧ (opP ((binC P .add 132 false).f t66 t70) fun t71 =>
opW ((buildSliceC P 43 2).f [(0, (.int .i64 17)), (1, (.int .i64 19))] H61) fun t73 H64 =>
wCall P n_digest_turn [t54, t73] H64 fun t74 H66 =>
cSame (sameB H64 H66) (idsOf [t69]) ∧ (cSame (sameB H64 H66) (idsOf [t58]) ∧ (opP ((binC P .shr 132 true).f t54 (.int .u64 10)) fun t76 =>
opP ((binC P .xor 132 false).f t74 t76) fun t77 =>
opP ((binC P .add 132 false).f t71 t77) fun t78 =>
opP (idxPtr 64 1 (nth l 2) (nth l 3)) fun t79 =>
opW (storeTo 1 t79 t78 H66) fun u_1 H72 =>
opP ((binC P .add 3 true).f (nth l 3) (.int .i64 1)) fun t80_1 =>
N [(nth l 0), (nth l 1), (nth l 2), t80_1] H72))))))) (
Qx 0 [(nth l 1), (nth l 2)] H)
theorem digest_spread_L0_eq (l : List Value) (H : Heap) (N : List Value → Heap → Prop) (Qx : Nat → List Value → Heap → Prop) (Qr : List Value → Heap → Prop) : vcC P true 82 digest_spread_P0 (live digest_spread_P0 0 12) 12 (envOf (bits 82 (live digest_spread_P0 0 12)) l) H (loopQ 82 digest_spread_P0 12 N Qx Qr) = digest_spread_L0 l H N Qx Qr := by kernel_rfl
theorem digest_spread_L0_ind (I : Nat → List Value → Heap → Prop) (Qx : Nat → List Value → Heap → Prop) (Qr : List Value → Heap → Prop) (hs : ∀ k l H, I k l H → digest_spread_L0 l H (fun l H => ∃ k', k' < k ∧ I k' l H) Qx Qr) (k : Nat) (l : List Value) (H : Heap) (h : I k l H) : wLoop P true 82 digest_spread_P0 12 l H Qx Qr :=
  loop_ind (by kernel_rfl) I (fun k l H h => (digest_spread_L0_eq l H _ Qx Qr).mpr (hs k l H h)) k l H h
def digest_spread (t0 : Value) (H : Heap) (K : Value → Heap → Prop) : Prop :=
wNew (zc P 139) H fun t2 H1 =>
wNew (zc P 139) H1 fun t3 H3 =>
wLoop P true 82 digest_spread_P0 12 [t0, t2, t3, (.int .i64 0)] H3 (fun id l H5 =>
cond (Nat.beq id 0) (
opW (loadAgg 64 (nth l 1) H5) fun t81 H7 =>
opW (storeTo 64 (nth l 0) t81 H7) fun u H9 =>
opW (loadAgg 64 (nth l 0) H9) fun r _ =>
K r H9) (
False)) (fun l H5 =>
opW (loadAgg 64 (nth l 0) H5) fun r_1 _ =>
K r_1 H5)
theorem digest_spread_eq (t0 : Value) (H : Heap) (K : Value → Heap → Prop) : vcF P n_digest_spread [t0] H K = digest_spread t0 H K := by kernel_rfl
theorem digest_spread_ok {t0 : Value} {H : Heap} {K : Value → Heap → Prop} (h : digest_spread t0 H K) : wCall P n_digest_spread [t0] H K := wCall_of_vcF rfl ((digest_spread_eq t0 H K).mpr h)
def digest_table (H : Heap) (K : Value → Heap → Prop) : Prop :=
opP ((buildC P 139).f [(0, (.int .u32 1116352408)), (1, (.int .u32 1899447441)), (2, (.int .u32 3049323471)), (3, (.int .u32 3921009573)), (4, (.int .u32 961987163)), (5, (.int .u32 1508970993)), (6, (.int .u32 2453635748)), (7, (.int .u32 2870763221)), (8, (.int .u32 3624381080)), (9, (.int .u32 310598401)), (10, (.int .u32 607225278)), (11, (.int .u32 1426881987)), (12, (.int .u32 1925078388)), (13, (.int .u32 2162078206)), (14, (.int .u32 2614888103)), (15, (.int .u32 3248222580)), (16, (.int .u32 3835390401)), (17, (.int .u32 4022224774)), (18, (.int .u32 264347078)), (19, (.int .u32 604807628)), (20, (.int .u32 770255983)), (21, (.int .u32 1249150122)), (22, (.int .u32 1555081692)), (23, (.int .u32 1996064986)), (24, (.int .u32 2554220882)), (25, (.int .u32 2821834349)), (26, (.int .u32 2952996808)), (27, (.int .u32 3210313671)), (28, (.int .u32 3336571891)), (29, (.int .u32 3584528711)), (30, (.int .u32 113926993)), (31, (.int .u32 338241895)), (32, (.int .u32 666307205)), (33, (.int .u32 773529912)), (34, (.int .u32 1294757372)), (35, (.int .u32 1396182291)), (36, (.int .u32 1695183700)), (37, (.int .u32 1986661051)), (38, (.int .u32 2177026350)), (39, (.int .u32 2456956037)), (40, (.int .u32 2730485921)), (41, (.int .u32 2820302411)), (42, (.int .u32 3259730800)), (43, (.int .u32 3345764771)), (44, (.int .u32 3516065817)), (45, (.int .u32 3600352804)), (46, (.int .u32 4094571909)), (47, (.int .u32 275423344)), (48, (.int .u32 430227734)), (49, (.int .u32 506948616)), (50, (.int .u32 659060556)), (51, (.int .u32 883997877)), (52, (.int .u32 958139571)), (53, (.int .u32 1322822218)), (54, (.int .u32 1537002063)), (55, (.int .u32 1747873779)), (56, (.int .u32 1955562222)), (57, (.int .u32 2024104815)), (58, (.int .u32 2227730452)), (59, (.int .u32 2361852424)), (60, (.int .u32 2428436474)), (61, (.int .u32 2756734187)), (62, (.int .u32 3204031479)), (63, (.int .u32 3329325298))]) fun t1 =>
wNew (cellsL t1) H fun t2 H2 =>
K t2 H2
theorem digest_table_eq (H : Heap) (K : Value → Heap → Prop) : vcF P n_digest_table [] H K = digest_table  H K := by kernel_rfl
theorem digest_table_ok {H : Heap} {K : Value → Heap → Prop} (h : digest_table  H K) : wCall P n_digest_table [] H K := wCall_of_vcF rfl ((digest_table_eq  H K).mpr h)
noncomputable abbrev digest_turn_P0 : Code := loopAt P n_digest_turn 0
def digest_turn_L0 (l : List Value) (H : Heap) (N : List Value → Heap → Prop) (Qx : Nat → List Value → Heap → Prop) (Qr : List Value → Heap → Prop) : Prop :=
opP ((binC P .lss 3 false).f (nth l 5) (nth l 4)) fun t11 =>
wIf t11 (
opP (idxSl 1 (nth l 3) (nth l 5)) fun t12 =>
opW (loadOne t12 H) fun t13 H3 =>
opP (unA .neg t13) fun t17 =>
wCall P n_math_bits_RotateLeft32 [(nth l 0), t17] H3 fun t18 H6 =>
opP ((binC P .xor 132 false).f (nth l 2) t18) fun t19 =>
opP ((binC P .add 3 true).f (nth l 5) (.int .i64 1)) fun t20 =>
N [(nth l 0), (nth l 1), t19, (nth l 3), (nth l 4), t20] H6) (
Qx 0 [(nth l 1), (nth l 2)] H)
theorem digest_turn_L0_eq (l : List Value) (H : Heap) (N : List Value → Heap → Prop) (Qx : Nat → List Value → Heap → Prop) (Qr : List Value → Heap → Prop) : vcC P true 22 digest_turn_P0 (live digest_turn_P0 0 48) 48 (envOf (bits 22 (live digest_turn_P0 0 48)) l) H (loopQ 22 digest_turn_P0 48 N Qx Qr) = digest_turn_L0 l H N Qx Qr := by kernel_rfl
theorem digest_turn_L0_ind (I : Nat → List Value → Heap → Prop) (Qx : Nat → List Value → Heap → Prop) (Qr : List Value → Heap → Prop) (hs : ∀ k l H, I k l H → digest_turn_L0 l H (fun l H => ∃ k', k' < k ∧ I k' l H) Qx Qr) (k : Nat) (l : List Value) (H : Heap) (h : I k l H) : wLoop P true 22 digest_turn_P0 48 l H Qx Qr :=
  loop_ind (by kernel_rfl) I (fun k l H h => (digest_turn_L0_eq l H _ Qx Qr).mpr (hs k l H h)) k l H h
def digest_turn (t0 t1 : Value) (H : Heap) (K : Value → Heap → Prop) : Prop :=
opW (lenSl t1 H) fun t9 H1 =>
wLoop P true 22 digest_turn_P0 48 [t0, (.int .u32 0), (.int .u32 0), t1, t9, (.int .i64 0)] H1 (fun id l H3 =>
cond (Nat.beq id 0) (
K (nth l 1) H3) (
False)) (fun l H3 =>
K (nth l 0) H3)
theorem digest_turn_eq (t0 t1 : Value) (H : Heap) (K : Value → Heap → Prop) : vcF P n_digest_turn [t0, t1] H K = digest_turn t0 t1 H K := by kernel_rfl
theorem digest_turn_ok {t0 t1 : Value} {H : Heap} {K : Value → Heap → Prop} (h : digest_turn t0 t1 H K) : wCall P n_digest_turn [t0, t1] H K := wCall_of_vcF rfl ((digest_turn_eq t0 t1 H K).mpr h)
def math_bits_RotateLeft32 (t0 t1 : Value) (H : Heap) (K : Value → Heap → Prop) : Prop :=
opW (cvInt .u64 t1 H) fun t7 H1 =>
opP ((binC P .and 101 true).f t7 (.int .u64 31)) fun t8 =>
opP ((binC P .shl 132 false).f t0 t8) fun t11 =>
opP ((binC P .sub 101 true).f (.int .u64 32) t8) fun t14 =>
opP ((binC P .shr 132 false).f t0 t14) fun t15 =>
opP ((binC P .or 132 false).f t11 t15) fun t16 =>
K t16 H1
theorem math_bits_RotateLeft32_eq (t0 t1 : Value) (H : Heap) (K : Value → Heap → Prop) : vcF P n_math_bits_RotateLeft32 [t0, t1] H K = math_bits_RotateLeft32 t0 t1 H K := by kernel_rfl
theorem math_bits_RotateLeft32_ok {t0 t1 : Value} {H : Heap} {K : Value → Heap → Prop} (h : math_bits_RotateLeft32 t0 t1 H K) : wCall P n_math_bits_RotateLeft32 [t0, t1] H K := wCall_of_vcF rfl ((math_bits_RotateLeft32_eq t0 t1 H K).mpr h)
end
end J
