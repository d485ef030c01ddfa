/- texts of the proof, one behind the other -/
import Derived.Test.YtccblhllmplmaaaProg
import Derived.KernelRfl
import Derived.Test.YtccblhllmplmaaaTA
set_option linter.unusedVariables false
set_option maxRecDepth 100000
namespace T
open Go Go.Ab
noncomputable abbrev P : Program := Go.Proofs.Try.prog
noncomputable section
abbrev n_law11_TableApplies : Nat := 4
abbrev n_law11_TableReads : Nat := 5
abbrev n_law11_TableBack : Nat := 6
abbrev n_law11_TableSlots : Nat := 7
abbrev n_law11_tableAlive : Nat := 10
abbrev n_table_Apply : Nat := 13
abbrev n_table_Parse : Nat := 14
abbrev n_table_Get : Nat := 15
abbrev n_table_Bytes : Nat := 16
abbrev n_ref11_Apply : Nat := 17
abbrev n_table_Right : Nat := 18
abbrev n_ref11_Right : Nat := 19
abbrev n_ref11_Bytes : Nat := 20
abbrev n_table_Put : Nat := 21
abbrev n_ref11_Put : Nat := 22
abbrev n_ref11_Parse : Nat := 23
abbrev n_ref11_Get : Nat := 24
abbrev n_law11_same : Nat := 25
abbrev n_ref10_Right : Nat := 26
abbrev n_table_transaction : Nat := 37
abbrev n_code_New : Nat := 38
abbrev n_slot_Read : Nat := 39
abbrev n_code_Reader_Fixed : Nat := 40
abbrev n_code_Reader_End : Nat := 41
abbrev n_table_change : Nat := 42
abbrev n_code_Raw : Nat := 43
abbrev n_slot_Bytes : Nat := 44
abbrev n_code_Fixed : Nat := 45
abbrev n_ref11_All : Nat := 46
abbrev n_slot_Right : Nat := 47
abbrev n_table_index : Nat := 48
abbrev n_ref10_Bytes : Nat := 49
abbrev n_ref05_Fixed : Nat := 50
abbrev n_ref10_Read : Nat := 51
abbrev n_ref11_number : Nat := 52
abbrev n_ref05_FixedOf : Nat := 53
abbrev n_ref05_End : Nat := 54
abbrev n_table_right : Nat := 60
abbrev n_code_Reader_Raw : Nat := 61
abbrev n_code_Reader_Err : Nat := 62
abbrev n_slices_Backward_byte_byte : Nat := 63
abbrev n_code_Reader_take : Nat := 64
abbrev n_code_within : Nat := 65
abbrev n_slices_Concat_byte_byte : Nat := 66
abbrev n_slices_Clone_byte_byte : Nat := 67
abbrev n_ref11_One : Nat := 68
abbrev n_ref05_size : Nat := 69
abbrev n_ref05_Raw : Nat := 70
abbrev n_slices_Backward_byte_byte_1 : Nat := 77
abbrev n_code_Reader_fail : Nat := 78
abbrev n_slices_Grow_byte_byte : Nat := 79
instance : Orc := orc1 n_law11_tableAlive
theorem law11_tableAlive_spec {H : Heap} {K : Value → Heap → Prop} (hk : K (.bool true) H) : wCall P n_law11_tableAlive [] H K := ⟨1, .ret, _, H, rfl, hk⟩
/-! bootjack/bootjacklaw11.TableApplies -/
def law11_TableApplies (t0 t1 : Value) (H : Heap) (K : Value → Heap → Prop) : Prop :=
wNew (cellsL t0) H fun t2 H1 =>
wCall P n_law11_tableAlive [] H1 fun t9 H3 =>
opP (unA .not t9) fun t10 =>
wIf t10 (
K (.bool false) H3) (
opW (lenSl t1 H3) fun t12 H6 =>
opP ((binC P .gtr 3 true).f t12 (.int .i64 30)) fun t13 =>
wIf t13 (
K (.bool true) H6) (
opW (loadAgg 75 t2 H6) fun t15 H9 =>
wCall P n_table_Apply [t15, t1] H9 fun t17 H11 =>
opP (extA 0 t17) fun t18 =>
opP (extA 1 t17) fun t19 =>
wNew (zc P 37) H11 fun t5 H15 =>
opW (storeTo 75 t5 t18 H15) fun u H17 =>
opW (loadAgg 75 t2 H17) fun t21 H19 =>
wCall P n_ref11_Apply [t21, t1] H19 fun t23 H21 =>
opP (extA 0 t23) fun t24 =>
opP (extA 1 t23) fun t25 =>
wNew (zc P 37) H21 fun t7 H25 =>
opW (storeTo 75 t7 t24 H25) fun u_1 H27 =>
opW (loadAgg 75 t2 H27) fun t26 H29 =>
wCall P n_table_Right [t26] H29 fun t27 H31 =>
opW (loadAgg 75 t2 H31) fun t28 H33 =>
cSame (sameB H29 H31) (idsOf [t2]) ∧ (wCall P n_ref11_Right [t28] H33 fun t29 H35 =>
opP ((binC P .eql 4 false).f t27 t29) fun t30 =>
wIf t30 (
opW (loadAgg 75 t5 H35) fun t32 H38 =>
opW (loadAgg 75 t7 H38) fun t33 H40 =>
opP ((binC P .eql 37 false).f t32 t33) fun t34 =>
opP (pickA t30 t34 (.bool false)) fun t35 =>
wIf t35 (
opP ((binC P .eql 3 false).f t19 t25) fun t39 =>
opP (pickA t35 t39 (.bool false)) fun t40 =>
wIf t40 (
opW (loadAgg 75 t2 H40) fun t42 H46 =>
wCall P n_table_Bytes [t42] H46 fun t43 H48 =>
opW (bytesToStr t43 H48) fun t44 H50 =>
opW (loadAgg 75 t2 H50) fun t45 H52 =>
cSame (sameB H46 H48) (idsOf [t2]) ∧ (wCall P n_ref11_Bytes [t45] H52 fun t46 H54 =>
cSame (sameB H52 H54) (idsOf [t43]) ∧ (opW (bytesToStr t46 H54) fun t47 H56 =>
opP ((binC P .eql 9 false).f t44 t47) fun t48 =>
opP (pickA t40 t48 (.bool false)) fun t49 =>
wIf t49 (
wCall P n_table_Put [t1] H56 fun t52 H60 =>
opW (bytesToStr t52 H60) fun t53 H62 =>
wCall P n_ref11_Put [t1] H62 fun t55 H64 =>
cSame (sameB H62 H64) (idsOf [t52]) ∧ (opW (bytesToStr t55 H64) fun t56 H66 =>
opP ((binC P .eql 9 false).f t53 t56) fun t57 =>
opP (pickA t49 t57 (.bool false)) fun t58 =>
K t58 H66)) (
opP (pickA t49 undef (.bool false)) fun t58_1 =>
K t58_1 H56)))) (
opP (pickA t40 undef (.bool false)) fun t49_1 =>
opP (pickA t49_1 undef (.bool false)) fun t58_2 =>
K t58_2 H40)) (
opP (pickA t35 undef (.bool false)) fun t40_1 =>
opP (pickA t40_1 undef (.bool false)) fun t49_2 =>
opP (pickA t49_2 undef (.bool false)) fun t58_3 =>
K t58_3 H40)) (
opP (pickA t30 undef (.bool false)) fun t35_1 =>
opP (pickA t35_1 undef (.bool false)) fun t40_2 =>
opP (pickA t40_2 undef (.bool false)) fun t49_3 =>
opP (pickA t49_3 undef (.bool false)) fun t58_4 =>
K t58_4 H35))))
theorem law11_TableApplies_eq (t0 t1 : Value) (H : Heap) (K : Value → Heap → Prop) : vcF P n_law11_TableApplies [t0, t1] H K = law11_TableApplies t0 t1 H K := by kernel_rfl
theorem law11_TableApplies_ok {t0 t1 : Value} {H : Heap} {K : Value → Heap → Prop} (h : law11_TableApplies t0 t1 H K) : wCall P n_law11_TableApplies [t0, t1] H K := wCall_of_vcF rfl ((law11_TableApplies_eq t0 t1 H K).mpr h)

/-! bootjack/bootjacklaw11.TableReads -/
def law11_TableReads (t0 : Value) (H : Heap) (K : Value → Heap → Prop) : Prop :=
wCall P n_law11_tableAlive [] H fun t11 H1 =>
opP (unA .not t11) fun t12 =>
wIf t12 (
K (.bool false) H1) (
opW (lenSl t0 H1) fun t14 H4 =>
opP ((binC P .gtr 3 true).f t14 (.int .i64 600)) fun t15 =>
wIf t15 (
K (.bool true) H4) (
wCall P n_table_Parse [t0] H4 fun t18 H7 =>
opP (extA 0 t18) fun t19 =>
opP (extA 1 t18) fun t20 =>
wNew (zc P 37) H7 fun t3 H11 =>
opW (storeTo 75 t3 t19 H11) fun u H13 =>
wCall P n_ref11_Parse [t0] H13 fun t23 H15 =>
opP (extA 0 t23) fun t24 =>
opP (extA 1 t23) fun t25 =>
wNew (zc P 37) H15 fun t5 H19 =>
opW (storeTo 75 t5 t24 H19) fun u_1 H21 =>
wCall P n_table_Get [t0] H21 fun t28 H23 =>
opP (extA 0 t28) fun t29 =>
opP (extA 1 t28) fun t30 =>
wCall P n_ref11_Get [t0] H23 fun t33 H27 =>
opP (extA 0 t33) fun t34 =>
opP (extA 1 t33) fun t35 =>
opW (loadAgg 75 t3 H27) fun t36 H31 =>
opW (loadAgg 75 t5 H31) fun t37 H33 =>
opP ((binC P .eql 37 false).f t36 t37) fun t38 =>
wIf t38 (
opP ((binC P .eql 3 false).f t20 t25) fun t42 =>
opP (pickA t38 t42 (.bool false)) fun t43 =>
wIf t43 (
wCall P n_law11_same [t29, t34] H33 fun t47 H38 =>
opP (pickA t43 t47 (.bool false)) fun t48 =>
wIf t48 (
opP ((binC P .eql 3 false).f t30 t35) fun t52 =>
opP (pickA t48 t52 (.bool false)) fun t53 =>
K t53 H38) (
opP (pickA t48 undef (.bool false)) fun t53_1 =>
K t53_1 H38)) (
opP (pickA t43 undef (.bool false)) fun t48_1 =>
opP (pickA t48_1 undef (.bool false)) fun t53_2 =>
K t53_2 H33)) (
opP (pickA t38 undef (.bool false)) fun t43_1 =>
opP (pickA t43_1 undef (.bool false)) fun t48_2 =>
opP (pickA t48_2 undef (.bool false)) fun t53_3 =>
K t53_3 H33)))
theorem law11_TableReads_eq (t0 : Value) (H : Heap) (K : Value → Heap → Prop) : vcF P n_law11_TableReads [t0] H K = law11_TableReads t0 H K := by kernel_rfl
theorem law11_TableReads_ok {t0 : Value} {H : Heap} {K : Value → Heap → Prop} (h : law11_TableReads t0 H K) : wCall P n_law11_TableReads [t0] H K := wCall_of_vcF rfl ((law11_TableReads_eq t0 H K).mpr h)

/-! bootjack/bootjacklaw11.TableBack -/
noncomputable abbrev law11_TableBack_P0 : Code := loopAt P n_law11_TableBack 0
/-- loop 0: goes on from the slots [4, 19, 20, 21, 22, 143, 144, 145]; leaves [4, 19, 20, 21, 22] -/
def law11_TableBack_L0 (l : List Value) (H : Heap) (N : List Value → Heap → Prop) (Qx : Nat → List Value → Heap → Prop) (Qr : List Value → Heap → Prop) : Prop :=
opP ((binC P .lss 3 false).f (nth l 7) (nth l 6)) fun t146 =>
wIf t146 (
opP (idxSl 40 (nth l 5) (nth l 7)) fun t147 =>
opW (loadAgg 40 t147 H) fun t148 H3 =>
wNew (zc P 41) H3 fun t24 H5 =>
opW (storeTo 40 t24 t148 H5) fun u H7 =>
opP ((binC P .eql 24 true).f (nth l 4) (.int .i64 0)) fun t150 =>
wIf t150 (
opW (loadAgg 75 (nth l 3) H7) fun t152 H10 =>
opW (loadAgg 40 t24 H10) fun t153 H12 =>
opW ((buildSliceC P 43 1).f [(0, t153)] H12) fun t154 H14 =>
wCall P n_table_Apply [t152, t154] H14 fun t155 H16 =>
opP (extA 0 t155) fun t156 =>
opP (extA 1 t155) fun t157 =>
opW (storeTo 75 (nth l 3) t156 H16) fun u_1 H20 =>
opP ((binC P .add 3 true).f (nth l 7) (.int .i64 1)) fun t158 =>
N [(nth l 0), (nth l 1), (nth l 2), (nth l 3), t157, (nth l 5), (nth l 6), t158] H20) (
opP ((binC P .add 3 true).f (nth l 7) (.int .i64 1)) fun t158_1 =>
N [(nth l 0), (nth l 1), (nth l 2), (nth l 3), (nth l 4), (nth l 5), (nth l 6), t158_1] H7)) (
Qx 0 [(nth l 0), (nth l 1), (nth l 2), (nth l 3), (nth l 4)] H)
theorem law11_TableBack_L0_eq (l : List Value) (H : Heap) (N : List Value → Heap → Prop) (Qx : Nat → List Value → Heap → Prop) (Qr : List Value → Heap → Prop) : vcC P true 167 law11_TableBack_P0 (live law11_TableBack_P0 0 7864336) 7864336 (envOf (bits 167 (live law11_TableBack_P0 0 7864336)) l) H (loopQ 167 law11_TableBack_P0 7864336 N Qx Qr) = law11_TableBack_L0 l H N Qx Qr := by kernel_rfl
theorem law11_TableBack_L0_ind (I : Nat → List Value → Heap → Prop) (Qx : Nat → List Value → Heap → Prop) (Qr : List Value → Heap → Prop) (hs : ∀ k l H, I k l H → law11_TableBack_L0 l H (fun l H => ∃ k', k' < k ∧ I k' l H) Qx Qr) (k : Nat) (l : List Value) (H : Heap) (h : I k l H) : wLoop P true 167 law11_TableBack_P0 7864336 l H Qx Qr :=
  loop_ind (by kernel_rfl) I (fun k l H h => (law11_TableBack_L0_eq l H _ Qx Qr).mpr (hs k l H h)) k l H h
def law11_TableBack (t0 t1 : Value) (H : Heap) (K : Value → Heap → Prop) : Prop :=
wNew (cellsL t0) H fun t2 H1 =>
wCall P n_law11_tableAlive [] H1 fun t25 H3 =>
opP (unA .not t25) fun t26 =>
wIf t26 (
K (.bool false) H3) (
opW (loadAgg 75 t2 H3) fun t27 H6 =>
wCall P n_table_Bytes [t27] H6 fun t28 H8 =>
wCall P n_table_Put [t1] H8 fun t30 H10 =>
wJoin (fun J =>
opW (lenSl t1 H10) fun t32 H13 =>
opP ((binC P .gtr 3 true).f t32 (.int .i64 30)) fun t33 =>
wIf t33 (
opP (pickA t33 (.bool true) undef) fun t38 =>
opP (pickA t38 (.bool true) undef) fun t43 =>
J [t1, t2, (.bool false), t28, t30, t43] H13) (
opW (lenSl t28 H13) fun t36 H18 =>
opP ((binC P .eql 3 true).f t36 (.int .i64 0)) fun t37 =>
opP (pickA t33 (.bool true) t37) fun t38_1 =>
wIf t38_1 (
opP (pickA t38_1 (.bool true) undef) fun t43_1 =>
J [t1, t2, (.bool false), t28, t30, t43_1] H18) (
opW (lenSl t30 H18) fun t41 H23 =>
opP ((binC P .eql 3 true).f t41 (.int .i64 0)) fun t42 =>
opP (pickA t38_1 (.bool true) t42) fun t43_2 =>
J [t1, t2, (.bool false), t28, t30, t43_2] H23))) (fun l H27 =>
wIf (nth l 5) (
opW (lenSl (nth l 0) H27) fun t45 H29 =>
opP ((binC P .gtr 3 true).f t45 (.int .i64 30)) fun t46 =>
wIf t46 (
opP (pickA t46 (.bool true) undef) fun t51 =>
opP (pickA t51 (.bool true) undef) fun t56 =>
K t56 H29) (
opW (loadAgg 75 (nth l 1) H29) fun t48 H34 =>
wCall P n_table_Right [t48] H34 fun t49 H36 =>
opP (unA .not t49) fun t50 =>
opP (pickA t46 (.bool true) t50) fun t51_1 =>
wIf t51_1 (
opP (pickA t51_1 (.bool true) undef) fun t56_1 =>
K t56_1 H36) (
opW (lenSl (nth l 4) H36) fun t54 H41 =>
opP ((binC P .eql 3 true).f t54 (.int .i64 0)) fun t55 =>
opP (pickA t51_1 (.bool true) t55) fun t56_2 =>
K t56_2 H41))) (
wCall P n_table_Parse [(nth l 3)] H27 fun t59 H45 =>
opP (extA 0 t59) fun t60 =>
opP (extA 1 t59) fun t61 =>
wNew (zc P 37) H45 fun t7 H49 =>
opW (storeTo 75 t7 t60 H49) fun u H51 =>
opW (lenSl (nth l 3) H51) fun t65 H53 =>
opP ((binC P .sub 3 true).f t65 (.int .i64 1)) fun t66 =>
opP (sliceSl 1 (nth l 3) none (some t66) none) fun t67 =>
wCall P n_table_Parse [t67] H53 fun t68 H57 =>
opP (extA 0 t68) fun t69 =>
opP (extA 1 t68) fun t70 =>
wNew (zc P 37) H57 fun t9 H61 =>
opW (storeTo 75 t9 t69 H61) fun u_1 H63 =>
opW ((buildSliceC P 46 0).f [] H63) fun t72 H65 =>
opW (appendWith 1 1 t72 (nth l 3) H65) fun t74 H67 =>
opW ((buildSliceC P 46 1).f [(0, (.int .u8 0))] H67) fun t75 H69 =>
opW (appendWith 1 1 t74 t75 H69) fun t76 H71 =>
wCall P n_table_Parse [t76] H71 fun t77 H73 =>
opP (extA 0 t77) fun t78 =>
opP (extA 1 t77) fun t79 =>
wNew (zc P 37) H73 fun t11 H77 =>
opW (storeTo 75 t11 t78 H77) fun u_2 H79 =>
wCall P n_table_Get [(nth l 4)] H79 fun t82 H81 =>
opP (extA 0 t82) fun t83 =>
opP (extA 1 t82) fun t84 =>
opW (lenSl (nth l 4) H81) fun t88 H85 =>
opP ((binC P .sub 3 true).f t88 (.int .i64 1)) fun t89 =>
opP (sliceSl 1 (nth l 4) none (some t89) none) fun t90 =>
wCall P n_table_Get [t90] H85 fun t91 H89 =>
opP (extA 0 t91) fun t92 =>
opP (extA 1 t91) fun t93 =>
opW ((buildSliceC P 46 0).f [] H89) fun t95 H93 =>
opW (appendWith 1 1 t95 (nth l 4) H93) fun t97 H95 =>
opW ((buildSliceC P 46 1).f [(0, (.int .u8 0))] H95) fun t98 H97 =>
opW (appendWith 1 1 t97 t98 H97) fun t99 H99 =>
wCall P n_table_Get [t99] H99 fun t100 H101 =>
opP (extA 0 t100) fun t101 =>
opP (extA 1 t100) fun t102 =>
wJoin (fun J_1 =>
opW (loadAgg 75 t7 H101) fun t103 H106 =>
opW (loadAgg 75 (nth l 1) H106) fun t104 H108 =>
opP ((binC P .neq 37 false).f t103 t104) fun t105 =>
wIf t105 (
opP (pickA t105 (.bool true) undef) fun t109 =>
opP (pickA t109 (.bool true) undef) fun t113 =>
opP (pickA t113 (.bool true) undef) fun t117 =>
opP (pickA t117 (.bool true) undef) fun t123 =>
opP (pickA t123 (.bool true) undef) fun t127 =>
opP (pickA t127 (.bool true) undef) fun t131 =>
opP (pickA t131 (.bool true) undef) fun t135 =>
wIf t135 (
K (.bool false) H108) (
J_1 [(nth l 0), (nth l 1), (nth l 2)] H108)) (
opP ((binC P .neq 24 true).f t61 (.int .i64 0)) fun t108 =>
opP (pickA t105 (.bool true) t108) fun t109_1 =>
wIf t109_1 (
opP (pickA t109_1 (.bool true) undef) fun t113_1 =>
opP (pickA t113_1 (.bool true) undef) fun t117_1 =>
opP (pickA t117_1 (.bool true) undef) fun t123_1 =>
opP (pickA t123_1 (.bool true) undef) fun t127_1 =>
opP (pickA t127_1 (.bool true) undef) fun t131_1 =>
opP (pickA t131_1 (.bool true) undef) fun t135_1 =>
wIf t135_1 (
K (.bool false) H108) (
J_1 [(nth l 0), (nth l 1), (nth l 2)] H108)) (
opP ((binC P .neq 24 true).f t70 (.int .i64 111)) fun t112 =>
opP (pickA t109_1 (.bool true) t112) fun t113_2 =>
wIf t113_2 (
opP (pickA t113_2 (.bool true) undef) fun t117_2 =>
opP (pickA t117_2 (.bool true) undef) fun t123_2 =>
opP (pickA t123_2 (.bool true) undef) fun t127_2 =>
opP (pickA t127_2 (.bool true) undef) fun t131_2 =>
opP (pickA t131_2 (.bool true) undef) fun t135_2 =>
wIf t135_2 (
K (.bool false) H108) (
J_1 [(nth l 0), (nth l 1), (nth l 2)] H108)) (
opP ((binC P .neq 24 true).f t79 (.int .i64 111)) fun t116 =>
opP (pickA t113_2 (.bool true) t116) fun t117_3 =>
wIf t117_3 (
opP (pickA t117_3 (.bool true) undef) fun t123_3 =>
opP (pickA t123_3 (.bool true) undef) fun t127_3 =>
opP (pickA t127_3 (.bool true) undef) fun t131_3 =>
opP (pickA t131_3 (.bool true) undef) fun t135_3 =>
wIf t135_3 (
K (.bool false) H108) (
J_1 [(nth l 0), (nth l 1), (nth l 2)] H108)) (
wCall P n_law11_same [t83, (nth l 0)] H108 fun t121 H139 =>
opP (unA .not t121) fun t122 =>
opP (pickA t117_3 (.bool true) t122) fun t123_4 =>
wIf t123_4 (
opP (pickA t123_4 (.bool true) undef) fun t127_4 =>
opP (pickA t127_4 (.bool true) undef) fun t131_4 =>
opP (pickA t131_4 (.bool true) undef) fun t135_4 =>
wIf t135_4 (
K (.bool false) H139) (
J_1 [(nth l 0), (nth l 1), (nth l 2)] H139)) (
opP ((binC P .neq 24 true).f t84 (.int .i64 0)) fun t126 =>
opP (pickA t123_4 (.bool true) t126) fun t127_5 =>
wIf t127_5 (
opP (pickA t127_5 (.bool true) undef) fun t131_5 =>
opP (pickA t131_5 (.bool true) undef) fun t135_5 =>
wIf t135_5 (
K (.bool false) H139) (
J_1 [(nth l 0), (nth l 1), (nth l 2)] H139)) (
opP ((binC P .neq 24 true).f t93 (.int .i64 111)) fun t130 =>
opP (pickA t127_5 (.bool true) t130) fun t131_6 =>
wIf t131_6 (
opP (pickA t131_6 (.bool true) undef) fun t135_6 =>
wIf t135_6 (
K (.bool false) H139) (
J_1 [(nth l 0), (nth l 1), (nth l 2)] H139)) (
opP ((binC P .neq 24 true).f t102 (.int .i64 111)) fun t134 =>
opP (pickA t131_6 (.bool true) t134) fun t135_7 =>
wIf t135_7 (
K (.bool false) H139) (
J_1 [(nth l 0), (nth l 1), (nth l 2)] H139))))))))) (fun l_1 H155 =>
opW (loadAgg 75 (nth l_1 1) H155) fun t137 H157 =>
wCall P n_table_Apply [t137, (nth l_1 0)] H157 fun t139 H159 =>
opP (extA 0 t139) fun t140 =>
opP (extA 1 t139) fun t141 =>
wNew (zc P 37) H159 fun t19 H163 =>
opW (storeTo 75 t19 t140 H163) fun u_3 H165 =>
opW (loadAgg 75 (nth l_1 1) H165) fun t142 H167 =>
wNew (zc P 37) H167 fun t21 H169 =>
opW (storeTo 75 t21 t142 H169) fun u_4 H171 =>
opW (lenSl (nth l_1 0) H171) fun t144 H173 =>
wLoop P true 167 law11_TableBack_P0 7864336 [(nth l_1 2), t19, t141, t21, (.int .i64 0), (nth l_1 0), t144, (.int .i64 0)] H173 (fun id l_2 H175 =>
cond (Nat.beq id 0) (
opW (loadAgg 75 (nth l_2 1) H175) fun t159 H177 =>
opW (loadAgg 75 (nth l_2 3) H177) fun t160 H179 =>
opP ((binC P .eql 37 false).f t159 t160) fun t161 =>
wIf t161 (
opP ((binC P .eql 24 false).f (nth l_2 2) (nth l_2 4)) fun t165 =>
opP (pickA t161 t165 (.bool false)) fun t166 =>
K t166 H179) (
opP (pickA t161 undef (.bool false)) fun t166_1 =>
K t166_1 H179)) (
False)) (fun l_2 H175 =>
K (nth l_2 0) H175)))))
theorem law11_TableBack_eq (t0 t1 : Value) (H : Heap) (K : Value → Heap → Prop) : vcF P n_law11_TableBack [t0, t1] H K = law11_TableBack t0 t1 H K := by kernel_rfl
theorem law11_TableBack_ok {t0 t1 : Value} {H : Heap} {K : Value → Heap → Prop} (h : law11_TableBack t0 t1 H K) : wCall P n_law11_TableBack [t0, t1] H K := wCall_of_vcF rfl ((law11_TableBack_eq t0 t1 H K).mpr h)

/-! bootjack/bootjacklaw11.TableSlots -/
def law11_TableSlots (t0 t1 t2 : Value) (H : Heap) (K : Value → Heap → Prop) : Prop :=
wNew (cellsL t0) H fun t3 H1 =>
wNew (cellsL t2) H1 fun t5 H3 =>
wCall P n_law11_tableAlive [] H3 fun t11 H5 =>
opP (unA .not t11) fun t12 =>
wIf t12 (
K (.bool false) H5) (
opW (loadAgg 75 t3 H5) fun t14 H8 =>
opW (loadAgg 36 t5 H8) fun t16 H10 =>
opP ((buildC P 41).f [(0, (.int .i64 1)), (1, t1), (3, t16)]) fun t17 =>
opW ((buildSliceC P 43 1).f [(0, t17)] H10) fun t18 H13 =>
wCall P n_table_Apply [t14, t18] H13 fun t19 H15 =>
opP (extA 0 t19) fun t20 =>
opP (extA 1 t19) fun t21 =>
wNew (zc P 37) H15 fun t7 H19 =>
opW (storeTo 75 t7 t20 H19) fun u H21 =>
wJoin (fun J =>
opW (loadAgg 75 t3 H21) fun t22 H24 =>
wCall P n_ref11_Right [t22] H24 fun t23 H26 =>
opP (unA .not t23) fun t24 =>
wIf t24 (
opP (pickA t24 (.bool true) undef) fun t29 =>
opP (pickA t29 (.bool true) undef) fun t33 =>
opP (pickA t33 (.bool true) undef) fun t37 =>
J [t1, t3, t5, t7, t21, t37] H26) (
opW (loadAgg 36 t5 H26) fun t26 H32 =>
wCall P n_ref10_Right [t26] H32 fun t27 H34 =>
opP (unA .not t27) fun t28 =>
opP (pickA t24 (.bool true) t28) fun t29_1 =>
wIf t29_1 (
opP (pickA t29_1 (.bool true) undef) fun t33_1 =>
opP (pickA t33_1 (.bool true) undef) fun t37_1 =>
J [t1, t3, t5, t7, t21, t37_1] H34) (
opP ((binC P .lss 3 true).f t1 (.int .i64 0)) fun t32 =>
opP (pickA t29_1 (.bool true) t32) fun t33_2 =>
wIf t33_2 (
opP (pickA t33_2 (.bool true) undef) fun t37_2 =>
J [t1, t3, t5, t7, t21, t37_2] H34) (
opP ((binC P .gtr 3 true).f t1 (.int .i64 1)) fun t36 =>
opP (pickA t33_2 (.bool true) t36) fun t37_3 =>
J [t1, t3, t5, t7, t21, t37_3] H34)))) (fun l H45 =>
wIf (nth l 5) (
opP ((binC P .eql 24 true).f (nth l 4) (.int .i64 111)) fun t39 =>
wIf t39 (
opW (loadAgg 75 (nth l 3) H45) fun t41 H48 =>
opP ((buildC P 37).f []) fun t42 =>
opP ((binC P .eql 37 false).f t41 t42) fun t43 =>
opP (pickA t39 t43 (.bool false)) fun t44 =>
K t44 H48) (
opP (pickA t39 undef (.bool false)) fun t44_1 =>
K t44_1 H45)) (
opW (loadAgg 75 (nth l 3) H45) fun t46 H54 =>
opP (offPtr 0 (nth l 1)) fun t49 =>
opP (idxPtr 2 36 t49 (nth l 0)) fun t50 =>
opW (loadAgg 36 t50 H54) fun t51 H58 =>
opP ((buildC P 41).f [(0, (.int .i64 1)), (1, (nth l 0)), (3, t51)]) fun t52 =>
opW ((buildSliceC P 43 1).f [(0, t52)] H58) fun t53 H61 =>
wCall P n_table_Apply [t46, t53] H61 fun t54 H63 =>
opP (extA 0 t54) fun t55 =>
opP (extA 1 t54) fun t56 =>
wNew (zc P 37) H63 fun t9 H67 =>
opW (storeTo 75 t9 t55 H67) fun u_1 H69 =>
opP ((binC P .eql 24 true).f (nth l 4) (.int .i64 0)) fun t58 =>
wIf t58 (
opP ((binC P .eql 24 true).f t56 (.int .i64 0)) fun t61 =>
opP (pickA t58 t61 (.bool false)) fun t62 =>
wIf t62 (
opW (loadAgg 75 t9 H69) fun t64 H74 =>
opW (loadAgg 75 (nth l 1) H74) fun t65 H76 =>
opP ((binC P .eql 37 false).f t64 t65) fun t66 =>
opP (pickA t62 t66 (.bool false)) fun t67 =>
wIf t67 (
opP (offPtr 0 (nth l 3)) fun t70 =>
opP (idxPtr 2 36 t70 (nth l 0)) fun t71 =>
opW (loadAgg 36 t71 H76) fun t72 H82 =>
opW (loadAgg 36 (nth l 2) H82) fun t73 H84 =>
opP ((binC P .eql 34 false).f t72 t73) fun t74 =>
opP (pickA t67 t74 (.bool false)) fun t75 =>
wIf t75 (
opP ((binC P .sub 3 true).f (.int .i64 1) (nth l 0)) fun t78 =>
opP (offPtr 0 (nth l 3)) fun t79 =>
opP (idxPtr 2 36 t79 t78) fun t80 =>
opW (loadAgg 36 t80 H84) fun t81 H91 =>
opP ((binC P .sub 3 true).f (.int .i64 1) (nth l 0)) fun t83 =>
opP (offPtr 0 (nth l 1)) fun t84 =>
opP (idxPtr 2 36 t84 t83) fun t85 =>
opW (loadAgg 36 t85 H91) fun t86 H96 =>
opP ((binC P .eql 34 false).f t81 t86) fun t87 =>
opP (pickA t75 t87 (.bool false)) fun t88 =>
wIf t88 (
opP (offPtr 72 (nth l 3)) fun t90 =>
opW (loadOne t90 H96) fun t91 H101 =>
opP (offPtr 72 (nth l 1)) fun t92 =>
opW (loadOne t92 H101) fun t93 H104 =>
opP ((binC P .eql 3 false).f t91 t93) fun t94 =>
opP (pickA t88 t94 (.bool false)) fun t95 =>
wIf t95 (
opP (offPtr 73 (nth l 3)) fun t97 =>
opW (loadOne t97 H104) fun t98 H109 =>
opP (offPtr 73 (nth l 1)) fun t99 =>
opW (loadOne t99 H109) fun t100 H112 =>
opP ((binC P .eql 3 false).f t98 t100) fun t101 =>
opP (pickA t95 t101 (.bool false)) fun t102 =>
wIf t102 (
opP (offPtr 74 (nth l 3)) fun t104 =>
opW (loadOne t104 H112) fun t105 H117 =>
opP (offPtr 74 (nth l 1)) fun t106 =>
opW (loadOne t106 H117) fun t107 H120 =>
opP ((binC P .eql 30 false).f t105 t107) fun t108 =>
opP (pickA t102 t108 (.bool false)) fun t109 =>
K t109 H120) (
opP (pickA t102 undef (.bool false)) fun t109_1 =>
K t109_1 H112)) (
opP (pickA t95 undef (.bool false)) fun t102_1 =>
opP (pickA t102_1 undef (.bool false)) fun t109_2 =>
K t109_2 H104)) (
opP (pickA t88 undef (.bool false)) fun t95_1 =>
opP (pickA t95_1 undef (.bool false)) fun t102_2 =>
opP (pickA t102_2 undef (.bool false)) fun t109_3 =>
K t109_3 H96)) (
opP (pickA t75 undef (.bool false)) fun t88_1 =>
opP (pickA t88_1 undef (.bool false)) fun t95_2 =>
opP (pickA t95_2 undef (.bool false)) fun t102_3 =>
opP (pickA t102_3 undef (.bool false)) fun t109_4 =>
K t109_4 H84)) (
opP (pickA t67 undef (.bool false)) fun t75_1 =>
opP (pickA t75_1 undef (.bool false)) fun t88_2 =>
opP (pickA t88_2 undef (.bool false)) fun t95_3 =>
opP (pickA t95_3 undef (.bool false)) fun t102_4 =>
opP (pickA t102_4 undef (.bool false)) fun t109_5 =>
K t109_5 H76)) (
opP (pickA t62 undef (.bool false)) fun t67_1 =>
opP (pickA t67_1 undef (.bool false)) fun t75_2 =>
opP (pickA t75_2 undef (.bool false)) fun t88_3 =>
opP (pickA t88_3 undef (.bool false)) fun t95_4 =>
opP (pickA t95_4 undef (.bool false)) fun t102_5 =>
opP (pickA t102_5 undef (.bool false)) fun t109_6 =>
K t109_6 H69)) (
opP (pickA t58 undef (.bool false)) fun t62_1 =>
opP (pickA t62_1 undef (.bool false)) fun t67_2 =>
opP (pickA t67_2 undef (.bool false)) fun t75_3 =>
opP (pickA t75_3 undef (.bool false)) fun t88_4 =>
opP (pickA t88_4 undef (.bool false)) fun t95_5 =>
opP (pickA t95_5 undef (.bool false)) fun t102_6 =>
opP (pickA t102_6 undef (.bool false)) fun t109_7 =>
K t109_7 H69))))
theorem law11_TableSlots_eq (t0 t1 t2 : Value) (H : Heap) (K : Value → Heap → Prop) : vcF P n_law11_TableSlots [t0, t1, t2] H K = law11_TableSlots t0 t1 t2 H K := by kernel_rfl
theorem law11_TableSlots_ok {t0 t1 t2 : Value} {H : Heap} {K : Value → Heap → Prop} (h : law11_TableSlots t0 t1 t2 H K) : wCall P n_law11_TableSlots [t0, t1, t2] H K := wCall_of_vcF rfl ((law11_TableSlots_eq t0 t1 t2 H K).mpr h)

/-! bootjack/table.Apply -/
noncomputable abbrev table_Apply_P0 : Code := loopAt P n_table_Apply 0
/-- loop 0: goes on from the slots [2, 4, 5, 17, 18, 19]; leaves [2, 4, 5] -/
def table_Apply_L0 (l : List Value) (H : Heap) (N : List Value → Heap → Prop) (Qx : Nat → List Value → Heap → Prop) (Qr : List Value → Heap → Prop) : Prop :=
opP ((binC P .lss 3 false).f (nth l 5) (nth l 4)) fun t20 =>
wIf t20 (
opP (idxSl 40 (nth l 3) (nth l 5)) fun t21 =>
opW (loadAgg 40 t21 H) fun t22 H3 =>
wNew (zc P 41) H3 fun t7 H5 =>
opW (storeTo 40 t7 t22 H5) fun u H7 =>
opP (offPtr 0 t7) fun t23 =>
opW (loadOne t23 H7) fun t24 H10 =>
opP ((binC P .eql 3 true).f t24 (.int .i64 1)) fun t26 =>
wIf t26 (
opP (offPtr 1 t7) fun t27 =>
opW (loadOne t27 H10) fun t28 H14 =>
opP (offPtr 3 t7) fun t29 =>
opW (loadAgg 36 t29 H14) fun t30 H17 =>
opP (offPtr 0 (nth l 0)) fun t31 =>
opP (idxPtr 2 36 t31 t28) fun t32 =>
opW (storeTo 36 t32 t30 H17) fun u_1 H21 =>
opP ((binC P .add 3 true).f (nth l 5) (.int .i64 1)) fun t54 =>
N [(nth l 0), (nth l 1), (nth l 2), (nth l 3), (nth l 4), t54] H21) (
opP ((binC P .eql 3 true).f t24 (.int .i64 2)) fun t34 =>
wIf t34 (
opP (offPtr 2 t7) fun t35 =>
opW (loadOne t35 H10) fun t36 H26 =>
opP (offPtr 72 (nth l 0)) fun t37 =>
opW (storeTo 1 t37 t36 H26) fun u_2 H29 =>
opP ((binC P .add 3 true).f (nth l 5) (.int .i64 1)) fun t54_1 =>
N [(nth l 0), (nth l 1), (nth l 2), (nth l 3), (nth l 4), t54_1] H29) (
opP ((binC P .eql 3 true).f t24 (.int .i64 3)) fun t39 =>
wIf t39 (
opP (offPtr 2 t7) fun t40 =>
opW (loadOne t40 H10) fun t41 H34 =>
opP (offPtr 73 (nth l 0)) fun t42 =>
opW (storeTo 1 t42 t41 H34) fun u_3 H37 =>
opP ((binC P .add 3 true).f (nth l 5) (.int .i64 1)) fun t54_2 =>
N [(nth l 0), (nth l 1), (nth l 2), (nth l 3), (nth l 4), t54_2] H37) (
opP ((binC P .eql 3 true).f t24 (.int .i64 4)) fun t44 =>
wIf t44 (
opP (offPtr 39 t7) fun t45 =>
opW (loadOne t45 H10) fun t46 H42 =>
opP (offPtr 74 (nth l 0)) fun t47 =>
opW (loadOne t47 H42) fun t48 H45 =>
opP ((binC P .lss 30 false).f t46 t48) fun t49 =>
wIf t49 (
opP ((buildC P 37).f []) fun t50 =>
opW (storeTo 75 (nth l 1) t50 H45) fun u_4 H49 =>
Qr [(nth l 0), (nth l 1), (.int .i64 111)] H49) (
opP (offPtr 39 t7) fun t51 =>
opW (loadOne t51 H45) fun t52 H52 =>
opP (offPtr 74 (nth l 0)) fun t53 =>
opW (storeTo 1 t53 t52 H52) fun u_5 H55 =>
opP ((binC P .add 3 true).f (nth l 5) (.int .i64 1)) fun t54_3 =>
N [(nth l 0), (nth l 1), (nth l 2), (nth l 3), (nth l 4), t54_3] H55)) (
opP ((binC P .add 3 true).f (nth l 5) (.int .i64 1)) fun t54_4 =>
N [(nth l 0), (nth l 1), (nth l 2), (nth l 3), (nth l 4), t54_4] H10))))) (
Qx 0 [(nth l 0), (nth l 1), (nth l 2)] H)
theorem table_Apply_L0_eq (l : List Value) (H : Heap) (N : List Value → Heap → Prop) (Qx : Nat → List Value → Heap → Prop) (Qr : List Value → Heap → Prop) : vcC P true 56 table_Apply_P0 (live table_Apply_P0 0 52) 52 (envOf (bits 56 (live table_Apply_P0 0 52)) l) H (loopQ 56 table_Apply_P0 52 N Qx Qr) = table_Apply_L0 l H N Qx Qr := by kernel_rfl
theorem table_Apply_L0_ind (I : Nat → List Value → Heap → Prop) (Qx : Nat → List Value → Heap → Prop) (Qr : List Value → Heap → Prop) (hs : ∀ k l H, I k l H → table_Apply_L0 l H (fun l H => ∃ k', k' < k ∧ I k' l H) Qx Qr) (k : Nat) (l : List Value) (H : Heap) (h : I k l H) : wLoop P true 56 table_Apply_P0 52 l H Qx Qr :=
  loop_ind (by kernel_rfl) I (fun k l H h => (table_Apply_L0_eq l H _ Qx Qr).mpr (hs k l H h)) k l H h
def table_Apply (t0 t1 : Value) (H : Heap) (K : Value → Heap → Prop) : Prop :=
wNew (cellsL t0) H fun t2 H1 =>
wNew (zc P 37) H1 fun t4 H3 =>
wJoin (fun J =>
opW (loadAgg 75 t2 H3) fun t8 H6 =>
wCall P n_table_Right [t8] H6 fun t9 H8 =>
opP (unA .not t9) fun t10 =>
wIf t10 (
opP (pickA t10 (.bool true) undef) fun t15 =>
J [t1, t2, t4, (.int .i64 0), t15] H8) (
wCall P n_table_transaction [t1] H8 fun t13 H12 =>
opP (unA .not t13) fun t14 =>
opP (pickA t10 (.bool true) t14) fun t15_1 =>
J [t1, t2, t4, (.int .i64 0), t15_1] H12)) (fun l H16 =>
wIf (nth l 4) (
opP ((buildC P 37).f []) fun t16 =>
opW (storeTo 75 (nth l 2) t16 H16) fun u H19 =>
opW (loadAgg 75 (nth l 2) H19) fun r _ =>
K (.tuple [r, (.int .i64 111)].toArray) H19) (
opW (lenSl (nth l 0) H16) fun t18 H22 =>
wLoop P true 56 table_Apply_P0 52 [(nth l 1), (nth l 2), (nth l 3), (nth l 0), t18, (.int .i64 0)] H22 (fun id l_1 H24 =>
cond (Nat.beq id 0) (
opW (loadAgg 75 (nth l_1 0) H24) fun t55 H26 =>
opW (storeTo 75 (nth l_1 1) t55 H26) fun u_1 H28 =>
opW (loadAgg 75 (nth l_1 1) H28) fun r_1 _ =>
K (.tuple [r_1, (.int .i64 0)].toArray) H28) (
False)) (fun l_1 H24 =>
opW (loadAgg 75 (nth l_1 1) H24) fun r_2 _ =>
K (.tuple [r_2, (nth l_1 2)].toArray) H24)))
theorem table_Apply_eq (t0 t1 : Value) (H : Heap) (K : Value → Heap → Prop) : vcF P n_table_Apply [t0, t1] H K = table_Apply t0 t1 H K := by kernel_rfl
theorem table_Apply_ok {t0 t1 : Value} {H : Heap} {K : Value → Heap → Prop} (h : table_Apply t0 t1 H K) : wCall P n_table_Apply [t0, t1] H K := wCall_of_vcF rfl ((table_Apply_eq t0 t1 H K).mpr h)

/-! bootjack/table.Parse -/
noncomputable abbrev table_Parse_P0 : Code := loopAt P n_table_Parse 0
/-- loop 0: goes on from the slots [2, 3, 4, 5, 11]; leaves [2, 3, 4, 5] -/
def table_Parse_L0 (l : List Value) (H : Heap) (N : List Value → Heap → Prop) (Qx : Nat → List Value → Heap → Prop) (Qr : List Value → Heap → Prop) : Prop :=
opP ((binC P .lss 3 true).f (nth l 4) (.int .i64 2)) fun t12 =>
wIf t12 (
wCall P n_slot_Read [(nth l 2)] H fun t16 H2 =>
opP (extA 0 t16) fun t17 =>
opP (extA 1 t16) fun t18 =>
wNew (zc P 34) H2 fun t7 H6 =>
opW (storeTo 36 t7 t17 H6) fun u H8 =>
opP ((binC P .neq 24 true).f t18 (.int .i64 0)) fun t20 =>
wIf t20 (
opP ((buildC P 37).f []) fun t21 =>
opW (storeTo 75 (nth l 0) t21 H8) fun u_1 H12 =>
Qr [(nth l 0), (.int .i64 111), (nth l 2), (nth l 3)] H12) (
opW (loadAgg 36 t7 H8) fun t23 H14 =>
opP (offPtr 0 (nth l 3)) fun t24 =>
opP (idxPtr 2 36 t24 (nth l 4)) fun t25 =>
opW (storeTo 36 t25 t23 H14) fun u_2 H18 =>
opP ((binC P .add 3 true).f (nth l 4) (.int .i64 1)) fun t26 =>
N [(nth l 0), (nth l 1), (nth l 2), (nth l 3), t26] H18)) (
Qx 0 [(nth l 0), (nth l 1), (nth l 2), (nth l 3)] H)
theorem table_Parse_L0_eq (l : List Value) (H : Heap) (N : List Value → Heap → Prop) (Qx : Nat → List Value → Heap → Prop) (Qr : List Value → Heap → Prop) : vcC P true 49 table_Parse_P0 (live table_Parse_P0 0 60) 60 (envOf (bits 49 (live table_Parse_P0 0 60)) l) H (loopQ 49 table_Parse_P0 60 N Qx Qr) = table_Parse_L0 l H N Qx Qr := by kernel_rfl
theorem table_Parse_L0_ind (I : Nat → List Value → Heap → Prop) (Qx : Nat → List Value → Heap → Prop) (Qr : List Value → Heap → Prop) (hs : ∀ k l H, I k l H → table_Parse_L0 l H (fun l H => ∃ k', k' < k ∧ I k' l H) Qx Qr) (k : Nat) (l : List Value) (H : Heap) (h : I k l H) : wLoop P true 49 table_Parse_P0 60 l H Qx Qr :=
  loop_ind (by kernel_rfl) I (fun k l H h => (table_Parse_L0_eq l H _ Qx Qr).mpr (hs k l H h)) k l H h
def table_Parse (t0 : Value) (H : Heap) (K : Value → Heap → Prop) : Prop :=
wNew (zc P 37) H fun t2 H1 =>
wCall P n_code_New [t0] H1 fun t10 H3 =>
wNew (zc P 37) H3 fun t5 H5 =>
wLoop P true 49 table_Parse_P0 60 [t2, (.int .i64 0), t10, t5, (.int .i64 0)] H5 (fun id l H7 =>
cond (Nat.beq id 0) (
wCall P n_code_Reader_Fixed [(nth l 2), (.int .i64 1)] H7 fun t28 H9 =>
opW (cvInt .i64 t28 H9) fun t29 H11 =>
wCall P n_code_Reader_Fixed [(nth l 2), (.int .i64 1)] H11 fun t31 H13 =>
opW (cvInt .i64 t31 H13) fun t32 H15 =>
opP ((binC P .add 3 true).f t32 (.int .i64 (-1))) fun t33 =>
opP (offPtr 72 (nth l 3)) fun t34 =>
opW (storeTo 1 t34 t29 H15) fun u H19 =>
opP (offPtr 73 (nth l 3)) fun t35 =>
opW (storeTo 1 t35 t33 H19) fun u_1 H22 =>
wCall P n_code_Reader_Fixed [(nth l 2), (.int .i64 8)] H22 fun t37 H24 =>
opP (offPtr 74 (nth l 3)) fun t38 =>
opW (storeTo 1 t38 t37 H24) fun u_2 H27 =>
wJoin (fun J =>
wCall P n_code_Reader_End [(nth l 2)] H27 fun t40 H30 =>
opP ((binC P .neq 24 true).f t40 (.int .i64 0)) fun t41 =>
wIf t41 (
opP (pickA t41 (.bool true) undef) fun t46 =>
J [(nth l 0), (nth l 3), t46] H30) (
opW (loadAgg 75 (nth l 3) H30) fun t43 H34 =>
wCall P n_table_Right [t43] H34 fun t44 H36 =>
opP (unA .not t44) fun t45 =>
opP (pickA t41 (.bool true) t45) fun t46_1 =>
J [(nth l 0), (nth l 3), t46_1] H36)) (fun l_1 H40 =>
wIf (nth l_1 2) (
opP ((buildC P 37).f []) fun t47 =>
opW (storeTo 75 (nth l_1 0) t47 H40) fun u_3 H43 =>
opW (loadAgg 75 (nth l_1 0) H43) fun r _ =>
K (.tuple [r, (.int .i64 111)].toArray) H43) (
opW (loadAgg 75 (nth l_1 1) H40) fun t48 H46 =>
opW (storeTo 75 (nth l_1 0) t48 H46) fun u_4 H48 =>
opW (loadAgg 75 (nth l_1 0) H48) fun r_1 _ =>
K (.tuple [r_1, (.int .i64 0)].toArray) H48))) (
False)) (fun l H7 =>
opW (loadAgg 75 (nth l 0) H7) fun r_2 _ =>
K (.tuple [r_2, (nth l 1)].toArray) H7)
theorem table_Parse_eq (t0 : Value) (H : Heap) (K : Value → Heap → Prop) : vcF P n_table_Parse [t0] H K = table_Parse t0 H K := by kernel_rfl
theorem table_Parse_ok {t0 : Value} {H : Heap} {K : Value → Heap → Prop} (h : table_Parse t0 H K) : wCall P n_table_Parse [t0] H K := wCall_of_vcF rfl ((table_Parse_eq t0 H K).mpr h)

/-! bootjack/table.Get -/
noncomputable abbrev table_Get_P0 : Code := loopAt P n_table_Get 0
/-- loop 0: goes on from the slots [2, 3, 4, 6, 16, 17]; leaves [2, 3, 4, 6] -/
def table_Get_L0 (l : List Value) (H : Heap) (N : List Value → Heap → Prop) (Qx : Nat → List Value → Heap → Prop) (Qr : List Value → Heap → Prop) : Prop :=
opP ((binC P .lss 3 false).f (nth l 5) (nth l 4)) fun t18 =>
wIf t18 (
wCall P n_table_change [(nth l 2)] H fun t21 H2 =>
opP (extA 0 t21) fun t22 =>
opP (extA 1 t21) fun t23 =>
wNew (zc P 41) H2 fun t7 H6 =>
opW (storeTo 40 t7 t22 H6) fun u H8 =>
opP ((binC P .neq 24 true).f t23 (.int .i64 0)) fun t25 =>
wIf t25 (
Qr [(.slice none 0 0), t23, (nth l 2), (nth l 3)] H8) (
opW (loadAgg 40 t7 H8) fun t28 H11 =>
opW ((buildSliceC P 43 1).f [(0, t28)] H11) fun t29 H13 =>
opW (appendWith 40 96 (nth l 3) t29 H13) fun t30 H15 =>
opP ((binC P .add 3 true).f (nth l 5) (.int .i64 1)) fun t31 =>
N [(nth l 0), (nth l 1), (nth l 2), t30, (nth l 4), t31] H15)) (
Qx 0 [(nth l 0), (nth l 1), (nth l 2), (nth l 3)] H)
theorem table_Get_L0_eq (l : List Value) (H : Heap) (N : List Value → Heap → Prop) (Qx : Nat → List Value → Heap → Prop) (Qr : List Value → Heap → Prop) : vcC P true 36 table_Get_P0 (live table_Get_P0 0 92) 92 (envOf (bits 36 (live table_Get_P0 0 92)) l) H (loopQ 36 table_Get_P0 92 N Qx Qr) = table_Get_L0 l H N Qx Qr := by kernel_rfl
theorem table_Get_L0_ind (I : Nat → List Value → Heap → Prop) (Qx : Nat → List Value → Heap → Prop) (Qr : List Value → Heap → Prop) (hs : ∀ k l H, I k l H → table_Get_L0 l H (fun l H => ∃ k', k' < k ∧ I k' l H) Qx Qr) (k : Nat) (l : List Value) (H : Heap) (h : I k l H) : wLoop P true 36 table_Get_P0 92 l H Qx Qr :=
  loop_ind (by kernel_rfl) I (fun k l H h => (table_Get_L0_eq l H _ Qx Qr).mpr (hs k l H h)) k l H h
def table_Get (t0 : Value) (H : Heap) (K : Value → Heap → Prop) : Prop :=
wCall P n_code_New [t0] H fun t10 H1 =>
wCall P n_code_Reader_Fixed [t10, (.int .i64 1)] H1 fun t12 H3 =>
opW (cvInt .i64 t12 H3) fun t13 H5 =>
opP ((binC P .gtr 3 true).f t13 (.int .i64 8)) fun t15 =>
wIf t15 (
K (.tuple [(.slice none 0 0), (.int .i64 111)].toArray) H5) (
wLoop P true 36 table_Get_P0 92 [(.slice none 0 0), (.int .i64 0), t10, (.slice none 0 0), t13, (.int .i64 0)] H5 (fun id l H8 =>
cond (Nat.beq id 0) (
wCall P n_code_Reader_End [(nth l 2)] H8 fun t33 H10 =>
opP ((binC P .neq 24 true).f t33 (.int .i64 0)) fun t34 =>
wIf t34 (
K (.tuple [(.slice none 0 0), (.int .i64 111)].toArray) H10) (
K (.tuple [(nth l 3), (.int .i64 0)].toArray) H10)) (
False)) (fun l H8 =>
K (.tuple [(nth l 0), (nth l 1)].toArray) H8))
theorem table_Get_eq (t0 : Value) (H : Heap) (K : Value → Heap → Prop) : vcF P n_table_Get [t0] H K = table_Get t0 H K := by kernel_rfl
theorem table_Get_ok {t0 : Value} {H : Heap} {K : Value → Heap → Prop} (h : table_Get t0 H K) : wCall P n_table_Get [t0] H K := wCall_of_vcF rfl ((table_Get_eq t0 H K).mpr h)

/-! bootjack/table.Bytes -/
def table_Bytes (t0 : Value) (H : Heap) (K : Value → Heap → Prop) : Prop :=
wNew (cellsL t0) H fun t1 H1 =>
opW (loadAgg 75 t1 H1) fun t4 H3 =>
wCall P n_table_Right [t4] H3 fun t5 H5 =>
opP (unA .not t5) fun t6 =>
wIf t6 (
K (.slice none 0 0) H5) (
opP (offPtr 0 t1) fun t7 =>
opP (idxPtr 2 36 t7 (.int .i64 0)) fun t8 =>
opW (loadAgg 36 t8 H5) fun t9 H10 =>
wCall P n_slot_Bytes [t9] H10 fun t10 H12 =>
opP (offPtr 0 t1) fun t11 =>
opP (idxPtr 2 36 t11 (.int .i64 1)) fun t12 =>
opW (loadAgg 36 t12 H12) fun t13 H16 =>
cSame (sameB H10 H12) (idsOf [t12]) ∧ (wCall P n_slot_Bytes [t13] H16 fun t14 H18 =>
opW ((buildSliceC P 65 1).f [(0, t14)] H18) fun t15 H20 =>
wCall P n_code_Raw [t10, t15] H20 fun t16 H22 =>
opP (offPtr 72 t1) fun t18 =>
opW (loadOne t18 H22) fun t19 H25 =>
opW (cvInt .u64 t19 H25) fun t20 H27 =>
wCall P n_code_Fixed [t16, t20, (.int .i64 1)] H27 fun t21 H29 =>
opP (offPtr 73 t1) fun t22 =>
opW (loadOne t22 H29) fun t23 H32 =>
cSame (sameB H27 H29) (idsOf [t22]) ∧ (opP ((binC P .sub 3 true).f t23 (.int .i64 (-1))) fun t24 =>
opW (cvInt .u64 t24 H32) fun t25 H35 =>
wCall P n_code_Fixed [t21, t25, (.int .i64 1)] H35 fun t26 H37 =>
opP (offPtr 74 t1) fun t28 =>
opW (loadOne t28 H37) fun t29 H40 =>
wCall P n_code_Fixed [t26, t29, (.int .i64 8)] H40 fun t30 H42 =>
K t30 H42)))
theorem table_Bytes_eq (t0 : Value) (H : Heap) (K : Value → Heap → Prop) : vcF P n_table_Bytes [t0] H K = table_Bytes t0 H K := by kernel_rfl
theorem table_Bytes_ok {t0 : Value} {H : Heap} {K : Value → Heap → Prop} (h : table_Bytes t0 H K) : wCall P n_table_Bytes [t0] H K := wCall_of_vcF rfl ((table_Bytes_eq t0 H K).mpr h)

/-! bootjack/bootjackref11.Apply -/
noncomputable abbrev ref11_Apply_P0 : Code := loopAt P n_ref11_Apply 0
/-- loop 0: goes on from the slots [2, 4, 5, 17, 18, 19]; leaves [2, 4, 5] -/
def ref11_Apply_L0 (l : List Value) (H : Heap) (N : List Value → Heap → Prop) (Qx : Nat → List Value → Heap → Prop) (Qr : List Value → Heap → Prop) : Prop :=
opP ((binC P .lss 3 false).f (nth l 5) (nth l 4)) fun t20 =>
wIf t20 (
opP (idxSl 40 (nth l 3) (nth l 5)) fun t21 =>
opW (loadAgg 40 t21 H) fun t22 H3 =>
wNew (zc P 41) H3 fun t7 H5 =>
opW (storeTo 40 t7 t22 H5) fun u H7 =>
wJoin (fun J =>
opP (offPtr 0 t7) fun t23 =>
opW (loadOne t23 H7) fun t24 H11 =>
opP ((binC P .eql 3 true).f t24 (.int .i64 1)) fun t25 =>
wIf t25 (
opP (offPtr 1 t7) fun t26 =>
opW (loadOne t26 H11) fun t27 H15 =>
opP (offPtr 3 t7) fun t28 =>
opW (loadAgg 36 t28 H15) fun t29 H18 =>
opP (offPtr 0 (nth l 0)) fun t30 =>
opP (idxPtr 2 36 t30 t27) fun t31 =>
opW (storeTo 36 t31 t29 H18) fun u_1 H22 =>
J [(nth l 0), (nth l 1), (nth l 2), t7, (nth l 3), (nth l 4), (nth l 5)] H22) (
J [(nth l 0), (nth l 1), (nth l 2), t7, (nth l 3), (nth l 4), (nth l 5)] H11)) (fun l_1 H24 =>
wJoin (fun J_1 =>
opP (offPtr 0 (nth l_1 3)) fun t32 =>
opW (loadOne t32 H24) fun t33 H28 =>
opP ((binC P .eql 3 true).f t33 (.int .i64 2)) fun t34 =>
wIf t34 (
opP (offPtr 2 (nth l_1 3)) fun t35 =>
opW (loadOne t35 H28) fun t36 H32 =>
opP (offPtr 72 (nth l_1 0)) fun t37 =>
opW (storeTo 1 t37 t36 H32) fun u_2 H35 =>
J_1 [(nth l_1 0), (nth l_1 1), (nth l_1 2), (nth l_1 3), (nth l_1 4), (nth l_1 5), (nth l_1 6)] H35) (
J_1 [(nth l_1 0), (nth l_1 1), (nth l_1 2), (nth l_1 3), (nth l_1 4), (nth l_1 5), (nth l_1 6)] H28)) (fun l_2 H37 =>
wJoin (fun J_2 =>
opP (offPtr 0 (nth l_2 3)) fun t38 =>
opW (loadOne t38 H37) fun t39 H41 =>
opP ((binC P .eql 3 true).f t39 (.int .i64 3)) fun t40 =>
wIf t40 (
opP (offPtr 2 (nth l_2 3)) fun t41 =>
opW (loadOne t41 H41) fun t42 H45 =>
opP (offPtr 73 (nth l_2 0)) fun t43 =>
opW (storeTo 1 t43 t42 H45) fun u_3 H48 =>
J_2 [(nth l_2 0), (nth l_2 1), (nth l_2 2), (nth l_2 3), (nth l_2 4), (nth l_2 5), (nth l_2 6)] H48) (
J_2 [(nth l_2 0), (nth l_2 1), (nth l_2 2), (nth l_2 3), (nth l_2 4), (nth l_2 5), (nth l_2 6)] H41)) (fun l_3 H50 =>
opP (offPtr 0 (nth l_3 3)) fun t44 =>
opW (loadOne t44 H50) fun t45 H53 =>
opP ((binC P .eql 3 true).f t45 (.int .i64 4)) fun t46 =>
wIf t46 (
opP (offPtr 39 (nth l_3 3)) fun t47 =>
opW (loadOne t47 H53) fun t48 H57 =>
opP (offPtr 74 (nth l_3 0)) fun t49 =>
opW (loadOne t49 H57) fun t50 H60 =>
opP ((binC P .lss 30 false).f t48 t50) fun t51 =>
wIf t51 (
opP ((buildC P 37).f []) fun t52 =>
opW (storeTo 75 (nth l_3 1) t52 H60) fun u_4 H64 =>
Qr [(nth l_3 0), (nth l_3 1), (.int .i64 111)] H64) (
opP (offPtr 39 (nth l_3 3)) fun t53 =>
opW (loadOne t53 H60) fun t54 H67 =>
opP (offPtr 74 (nth l_3 0)) fun t55 =>
opW (storeTo 1 t55 t54 H67) fun u_5 H70 =>
opP ((binC P .add 3 true).f (nth l_3 6) (.int .i64 1)) fun t56 =>
N [(nth l_3 0), (nth l_3 1), (nth l_3 2), (nth l_3 4), (nth l_3 5), t56] H70)) (
opP ((binC P .add 3 true).f (nth l_3 6) (.int .i64 1)) fun t56_1 =>
N [(nth l_3 0), (nth l_3 1), (nth l_3 2), (nth l_3 4), (nth l_3 5), t56_1] H53))))) (
Qx 0 [(nth l 0), (nth l 1), (nth l 2)] H)
theorem ref11_Apply_L0_eq (l : List Value) (H : Heap) (N : List Value → Heap → Prop) (Qx : Nat → List Value → Heap → Prop) (Qr : List Value → Heap → Prop) : vcC P true 58 ref11_Apply_P0 (live ref11_Apply_P0 0 52) 52 (envOf (bits 58 (live ref11_Apply_P0 0 52)) l) H (loopQ 58 ref11_Apply_P0 52 N Qx Qr) = ref11_Apply_L0 l H N Qx Qr := by kernel_rfl
theorem ref11_Apply_L0_ind (I : Nat → List Value → Heap → Prop) (Qx : Nat → List Value → Heap → Prop) (Qr : List Value → Heap → Prop) (hs : ∀ k l H, I k l H → ref11_Apply_L0 l H (fun l H => ∃ k', k' < k ∧ I k' l H) Qx Qr) (k : Nat) (l : List Value) (H : Heap) (h : I k l H) : wLoop P true 58 ref11_Apply_P0 52 l H Qx Qr :=
  loop_ind (by kernel_rfl) I (fun k l H h => (ref11_Apply_L0_eq l H _ Qx Qr).mpr (hs k l H h)) k l H h
def ref11_Apply (t0 t1 : Value) (H : Heap) (K : Value → Heap → Prop) : Prop :=
wNew (cellsL t0) H fun t2 H1 =>
wNew (zc P 37) H1 fun t4 H3 =>
wJoin (fun J =>
opW (loadAgg 75 t2 H3) fun t8 H6 =>
wCall P n_ref11_Right [t8] H6 fun t9 H8 =>
opP (unA .not t9) fun t10 =>
wIf t10 (
opP (pickA t10 (.bool true) undef) fun t15 =>
J [t1, t2, t4, (.int .i64 0), t15] H8) (
wCall P n_ref11_All [t1] H8 fun t13 H12 =>
opP (unA .not t13) fun t14 =>
opP (pickA t10 (.bool true) t14) fun t15_1 =>
J [t1, t2, t4, (.int .i64 0), t15_1] H12)) (fun l H16 =>
wIf (nth l 4) (
opP ((buildC P 37).f []) fun t16 =>
opW (storeTo 75 (nth l 2) t16 H16) fun u H19 =>
opW (loadAgg 75 (nth l 2) H19) fun r _ =>
K (.tuple [r, (.int .i64 111)].toArray) H19) (
opW (lenSl (nth l 0) H16) fun t18 H22 =>
wLoop P true 58 ref11_Apply_P0 52 [(nth l 1), (nth l 2), (nth l 3), (nth l 0), t18, (.int .i64 0)] H22 (fun id l_1 H24 =>
cond (Nat.beq id 0) (
opW (loadAgg 75 (nth l_1 0) H24) fun t57 H26 =>
opW (storeTo 75 (nth l_1 1) t57 H26) fun u_1 H28 =>
opW (loadAgg 75 (nth l_1 1) H28) fun r_1 _ =>
K (.tuple [r_1, (.int .i64 0)].toArray) H28) (
False)) (fun l_1 H24 =>
opW (loadAgg 75 (nth l_1 1) H24) fun r_2 _ =>
K (.tuple [r_2, (nth l_1 2)].toArray) H24)))
theorem ref11_Apply_eq (t0 t1 : Value) (H : Heap) (K : Value → Heap → Prop) : vcF P n_ref11_Apply [t0, t1] H K = ref11_Apply t0 t1 H K := by kernel_rfl
theorem ref11_Apply_ok {t0 t1 : Value} {H : Heap} {K : Value → Heap → Prop} (h : ref11_Apply t0 t1 H K) : wCall P n_ref11_Apply [t0, t1] H K := wCall_of_vcF rfl ((ref11_Apply_eq t0 t1 H K).mpr h)

/-! bootjack/table.Right -/
def table_Right (t0 : Value) (H : Heap) (K : Value → Heap → Prop) : Prop :=
wNew (cellsL t0) H fun t1 H1 =>
opP (offPtr 0 t1) fun t3 =>
opP (idxPtr 2 36 t3 (.int .i64 0)) fun t4 =>
opW (loadAgg 36 t4 H1) fun t5 H5 =>
wCall P n_slot_Right [t5] H5 fun t6 H7 =>
wIf t6 (
opP (offPtr 0 t1) fun t8 =>
opP (idxPtr 2 36 t8 (.int .i64 1)) fun t9 =>
opW (loadAgg 36 t9 H7) fun t10 H11 =>
wCall P n_slot_Right [t10] H11 fun t11 H13 =>
opP (pickA t6 t11 (.bool false)) fun t12 =>
wIf t12 (
opP (offPtr 72 t1) fun t14 =>
opW (loadOne t14 H13) fun t15 H17 =>
wCall P n_table_index [t15] H17 fun t16 H19 =>
opP (pickA t12 t16 (.bool false)) fun t17 =>
wIf t17 (
opP (offPtr 73 t1) fun t19 =>
opW (loadOne t19 H19) fun t20 H23 =>
opP ((binC P .eql 3 true).f t20 (.int .i64 (-1))) fun t21 =>
wIf t21 (
opP (pickA t21 (.bool true) undef) fun t26 =>
opP (pickA t17 t26 (.bool false)) fun t27 =>
opP (offPtr 74 t1) fun t29 =>
opW (loadOne t29 H23) fun t30 H29 =>
opP ((binC P .leq 30 true).f t30 (.int .u64 281474976710656)) fun t31 =>
opP (pickA t27 t31 (.bool false)) fun t32 =>
K t32 H29) (
opP (offPtr 73 t1) fun t23 =>
opW (loadOne t23 H23) fun t24 H34 =>
wCall P n_table_index [t24] H34 fun t25 H36 =>
opP (pickA t21 (.bool true) t25) fun t26_1 =>
opP (pickA t17 t26_1 (.bool false)) fun t27_1 =>
wIf t27_1 (
opP (offPtr 74 t1) fun t29_1 =>
opW (loadOne t29_1 H36) fun t30_1 H41 =>
opP ((binC P .leq 30 true).f t30_1 (.int .u64 281474976710656)) fun t31_1 =>
opP (pickA t27_1 t31_1 (.bool false)) fun t32_1 =>
K t32_1 H41) (
opP (pickA t27_1 undef (.bool false)) fun t32_2 =>
K t32_2 H36))) (
opP (pickA t17 undef (.bool false)) fun t27_2 =>
opP (pickA t27_2 undef (.bool false)) fun t32_3 =>
K t32_3 H19)) (
opP (pickA t12 undef (.bool false)) fun t17_1 =>
opP (pickA t17_1 undef (.bool false)) fun t27_3 =>
opP (pickA t27_3 undef (.bool false)) fun t32_4 =>
K t32_4 H13)) (
opP (pickA t6 undef (.bool false)) fun t12_1 =>
opP (pickA t12_1 undef (.bool false)) fun t17_2 =>
opP (pickA t17_2 undef (.bool false)) fun t27_4 =>
opP (pickA t27_4 undef (.bool false)) fun t32_5 =>
K t32_5 H7)
theorem table_Right_eq (t0 : Value) (H : Heap) (K : Value → Heap → Prop) : vcF P n_table_Right [t0] H K = table_Right t0 H K := by kernel_rfl
theorem table_Right_ok {t0 : Value} {H : Heap} {K : Value → Heap → Prop} (h : table_Right t0 H K) : wCall P n_table_Right [t0] H K := wCall_of_vcF rfl ((table_Right_eq t0 H K).mpr h)

/-! bootjack/bootjackref11.Right -/
def ref11_Right (t0 : Value) (H : Heap) (K : Value → Heap → Prop) : Prop :=
wNew (cellsL t0) H fun t1 H1 =>
wJoin (fun J =>
opP (offPtr 0 t1) fun t3 =>
opP (idxPtr 2 36 t3 (.int .i64 0)) fun t4 =>
opW (loadAgg 36 t4 H1) fun t5 H6 =>
wCall P n_ref10_Right [t5] H6 fun t6 H8 =>
opP (unA .not t6) fun t7 =>
wIf t7 (
opP (pickA t7 (.bool true) undef) fun t14 =>
wIf t14 (
K (.bool false) H8) (
J [t1] H8)) (
opP (offPtr 0 t1) fun t9 =>
opP (idxPtr 2 36 t9 (.int .i64 1)) fun t10 =>
opW (loadAgg 36 t10 H8) fun t11 H14 =>
wCall P n_ref10_Right [t11] H14 fun t12 H16 =>
opP (unA .not t12) fun t13 =>
opP (pickA t7 (.bool true) t13) fun t14_1 =>
wIf t14_1 (
K (.bool false) H16) (
J [t1] H16))) (fun l H20 =>
opP (offPtr 72 (nth l 0)) fun t15 =>
opW (loadOne t15 H20) fun t16 H23 =>
opP ((binC P .geq 3 true).f t16 (.int .i64 0)) fun t17 =>
wIf t17 (
opP (offPtr 72 (nth l 0)) fun t19 =>
opW (loadOne t19 H23) fun t20 H27 =>
opP ((binC P .leq 3 true).f t20 (.int .i64 1)) fun t21 =>
opP (pickA t17 t21 (.bool false)) fun t22 =>
wIf t22 (
opP (offPtr 73 (nth l 0)) fun t24 =>
opW (loadOne t24 H27) fun t25 H32 =>
opP ((binC P .geq 3 true).f t25 (.int .i64 (-1))) fun t26 =>
opP (pickA t22 t26 (.bool false)) fun t27 =>
wIf t27 (
opP (offPtr 73 (nth l 0)) fun t29 =>
opW (loadOne t29 H32) fun t30 H37 =>
opP ((binC P .leq 3 true).f t30 (.int .i64 1)) fun t31 =>
opP (pickA t27 t31 (.bool false)) fun t32 =>
wIf t32 (
opP (offPtr 74 (nth l 0)) fun t34 =>
opW (loadOne t34 H37) fun t35 H42 =>
opP ((binC P .leq 30 true).f t35 (.int .u64 281474976710656)) fun t36 =>
opP (pickA t32 t36 (.bool false)) fun t37 =>
K t37 H42) (
opP (pickA t32 undef (.bool false)) fun t37_1 =>
K t37_1 H37)) (
opP (pickA t27 undef (.bool false)) fun t32_1 =>
opP (pickA t32_1 undef (.bool false)) fun t37_2 =>
K t37_2 H32)) (
opP (pickA t22 undef (.bool false)) fun t27_1 =>
opP (pickA t27_1 undef (.bool false)) fun t32_2 =>
opP (pickA t32_2 undef (.bool false)) fun t37_3 =>
K t37_3 H27)) (
opP (pickA t17 undef (.bool false)) fun t22_1 =>
opP (pickA t22_1 undef (.bool false)) fun t27_2 =>
opP (pickA t27_2 undef (.bool false)) fun t32_3 =>
opP (pickA t32_3 undef (.bool false)) fun t37_4 =>
K t37_4 H23))
theorem ref11_Right_eq (t0 : Value) (H : Heap) (K : Value → Heap → Prop) : vcF P n_ref11_Right [t0] H K = ref11_Right t0 H K := by kernel_rfl
theorem ref11_Right_ok {t0 : Value} {H : Heap} {K : Value → Heap → Prop} (h : ref11_Right t0 H K) : wCall P n_ref11_Right [t0] H K := wCall_of_vcF rfl ((ref11_Right_eq t0 H K).mpr h)

/-! bootjack/bootjackref11.Bytes -/
def ref11_Bytes (t0 : Value) (H : Heap) (K : Value → Heap → Prop) : Prop :=
wNew (cellsL t0) H fun t1 H1 =>
opW ((buildSliceC P 46 0).f [] H1) fun t4 H3 =>
opW (loadAgg 75 t1 H3) fun t5 H5 =>
wCall P n_ref11_Right [t5] H5 fun t6 H7 =>
opP (unA .not t6) fun t7 =>
wIf t7 (
K t4 H7) (
opP (offPtr 0 t1) fun t10 =>
opP (idxPtr 2 36 t10 (.int .i64 0)) fun t11 =>
opW (loadAgg 36 t11 H7) fun t12 H12 =>
wCall P n_ref10_Bytes [t12] H12 fun t13 H14 =>
opW (appendWith 1 1 t4 t13 H14) fun t14 H16 =>
opP (offPtr 0 t1) fun t16 =>
opP (idxPtr 2 36 t16 (.int .i64 1)) fun t17 =>
opW (loadAgg 36 t17 H16) fun t18 H20 =>
wCall P n_ref10_Bytes [t18] H20 fun t19 H22 =>
opW (appendWith 1 1 t14 t19 H22) fun t20 H24 =>
opP (offPtr 72 t1) fun t22 =>
opW (loadOne t22 H24) fun t23 H27 =>
opW (cvInt .u8 t23 H27) fun t24 H29 =>
opP (offPtr 73 t1) fun t25 =>
opW (loadOne t25 H29) fun t26 H32 =>
opP ((binC P .add 3 true).f t26 (.int .i64 1)) fun t27 =>
opW (cvInt .u8 t27 H32) fun t28 H35 =>
opW ((buildSliceC P 46 2).f [(0, t24), (1, t28)] H35) fun t29 H37 =>
opW (appendWith 1 1 t20 t29 H37) fun t30 H39 =>
opP (offPtr 74 t1) fun t32 =>
opW (loadOne t32 H39) fun t33 H42 =>
wCall P n_ref05_Fixed [t33, (.int .i64 8)] H42 fun t34 H44 =>
opW (appendWith 1 1 t30 t34 H44) fun t35 H46 =>
K t35 H46)
theorem ref11_Bytes_eq (t0 : Value) (H : Heap) (K : Value → Heap → Prop) : vcF P n_ref11_Bytes [t0] H K = ref11_Bytes t0 H K := by kernel_rfl
theorem ref11_Bytes_ok {t0 : Value} {H : Heap} {K : Value → Heap → Prop} (h : ref11_Bytes t0 H K) : wCall P n_ref11_Bytes [t0] H K := wCall_of_vcF rfl ((ref11_Bytes_eq t0 H K).mpr h)

/-! bootjack/table.Put -/
noncomputable abbrev table_Put_P0 : Code := loopAt P n_table_Put 0
/-- loop 0: goes on from the slots [2, 3, 13, 14, 15]; leaves [2, 3] -/
def table_Put_L0 (l : List Value) (H : Heap) (N : List Value → Heap → Prop) (Qx : Nat → List Value → Heap → Prop) (Qr : List Value → Heap → Prop) : Prop :=
opP ((binC P .lss 3 false).f (nth l 4) (nth l 3)) fun t16 =>
wIf t16 (
opP (idxSl 40 (nth l 2) (nth l 4)) fun t17 =>
opW (loadAgg 40 t17 H) fun t18 H3 =>
wNew (zc P 41) H3 fun t5 H5 =>
opW (storeTo 40 t5 t18 H5) fun u H7 =>
opP (offPtr 0 t5) fun t20 =>
opW (loadOne t20 H7) fun t21 H10 =>
opW (cvInt .u64 t21 H10) fun t22 H12 =>
wCall P n_code_Fixed [(nth l 1), t22, (.int .i64 1)] H12 fun t23 H14 =>
opP (offPtr 0 t5) fun t24 =>
opW (loadOne t24 H14) fun t25 H17 =>
opP ((binC P .eql 3 true).f t25 (.int .i64 1)) fun t27 =>
wIf t27 (
opP (offPtr 1 t5) fun t29 =>
opW (loadOne t29 H17) fun t30 H21 =>
opW (cvInt .u64 t30 H21) fun t31 H23 =>
wCall P n_code_Fixed [t23, t31, (.int .i64 1)] H23 fun t32 H25 =>
opP (offPtr 3 t5) fun t33 =>
opW (loadAgg 36 t33 H25) fun t34 H28 =>
cSame (sameB H23 H25) (idsOf [t33]) ∧ (wCall P n_slot_Bytes [t34] H28 fun t35 H30 =>
opW ((buildSliceC P 65 1).f [(0, t35)] H30) fun t36 H32 =>
wCall P n_code_Raw [t32, t36] H32 fun t37 H34 =>
opP ((binC P .add 3 true).f (nth l 4) (.int .i64 1)) fun t59 =>
N [(nth l 0), t37, (nth l 2), (nth l 3), t59] H34)) (
opP ((binC P .eql 3 true).f t25 (.int .i64 2)) fun t39 =>
wIf t39 (
opP (offPtr 2 t5) fun t41 =>
opW (loadOne t41 H17) fun t42 H39 =>
opW (cvInt .u64 t42 H39) fun t43 H41 =>
wCall P n_code_Fixed [t23, t43, (.int .i64 1)] H41 fun t44 H43 =>
opP ((binC P .add 3 true).f (nth l 4) (.int .i64 1)) fun t59_1 =>
N [(nth l 0), t44, (nth l 2), (nth l 3), t59_1] H43) (
opP ((binC P .eql 3 true).f t25 (.int .i64 3)) fun t46 =>
wIf t46 (
opP (offPtr 2 t5) fun t48 =>
opW (loadOne t48 H17) fun t49 H48 =>
opP ((binC P .sub 3 true).f t49 (.int .i64 (-1))) fun t50 =>
opW (cvInt .u64 t50 H48) fun t51 H51 =>
wCall P n_code_Fixed [t23, t51, (.int .i64 1)] H51 fun t52 H53 =>
opP ((binC P .add 3 true).f (nth l 4) (.int .i64 1)) fun t59_2 =>
N [(nth l 0), t52, (nth l 2), (nth l 3), t59_2] H53) (
opP ((binC P .eql 3 true).f t25 (.int .i64 4)) fun t54 =>
wIf t54 (
opP (offPtr 39 t5) fun t56 =>
opW (loadOne t56 H17) fun t57 H58 =>
wCall P n_code_Fixed [t23, t57, (.int .i64 8)] H58 fun t58 H60 =>
opP ((binC P .add 3 true).f (nth l 4) (.int .i64 1)) fun t59_3 =>
N [(nth l 0), t58, (nth l 2), (nth l 3), t59_3] H60) (
opP ((binC P .add 3 true).f (nth l 4) (.int .i64 1)) fun t59_4 =>
N [(nth l 0), t23, (nth l 2), (nth l 3), t59_4] H17))))) (
Qx 0 [(nth l 0), (nth l 1)] H)
theorem table_Put_L0_eq (l : List Value) (H : Heap) (N : List Value → Heap → Prop) (Qx : Nat → List Value → Heap → Prop) (Qr : List Value → Heap → Prop) : vcC P true 61 table_Put_P0 (live table_Put_P0 0 12) 12 (envOf (bits 61 (live table_Put_P0 0 12)) l) H (loopQ 61 table_Put_P0 12 N Qx Qr) = table_Put_L0 l H N Qx Qr := by kernel_rfl
theorem table_Put_L0_ind (I : Nat → List Value → Heap → Prop) (Qx : Nat → List Value → Heap → Prop) (Qr : List Value → Heap → Prop) (hs : ∀ k l H, I k l H → table_Put_L0 l H (fun l H => ∃ k', k' < k ∧ I k' l H) Qx Qr) (k : Nat) (l : List Value) (H : Heap) (h : I k l H) : wLoop P true 61 table_Put_P0 12 l H Qx Qr :=
  loop_ind (by kernel_rfl) I (fun k l H h => (table_Put_L0_eq l H _ Qx Qr).mpr (hs k l H h)) k l H h
def table_Put (t0 : Value) (H : Heap) (K : Value → Heap → Prop) : Prop :=
wCall P n_table_transaction [t0] H fun t7 H1 =>
opP (unA .not t7) fun t8 =>
wIf t8 (
K (.slice none 0 0) H1) (
opW (lenSl t0 H1) fun t10 H4 =>
opW (cvInt .u64 t10 H4) fun t11 H6 =>
wCall P n_code_Fixed [(.slice none 0 0), t11, (.int .i64 1)] H6 fun t12 H8 =>
opW (lenSl t0 H8) fun t14 H10 =>
wLoop P true 61 table_Put_P0 12 [(.slice none 0 0), t12, t0, t14, (.int .i64 0)] H10 (fun id l H12 =>
cond (Nat.beq id 0) (
K (nth l 1) H12) (
False)) (fun l H12 =>
K (nth l 0) H12))
theorem table_Put_eq (t0 : Value) (H : Heap) (K : Value → Heap → Prop) : vcF P n_table_Put [t0] H K = table_Put t0 H K := by kernel_rfl
theorem table_Put_ok {t0 : Value} {H : Heap} {K : Value → Heap → Prop} (h : table_Put t0 H K) : wCall P n_table_Put [t0] H K := wCall_of_vcF rfl ((table_Put_eq t0 H K).mpr h)

/-! bootjack/bootjackref11.Put -/
noncomputable abbrev ref11_Put_P0 : Code := loopAt P n_ref11_Put 0
/-- loop 0: goes on from the slots [2, 3, 17, 18, 19]; leaves [2, 3] -/
def ref11_Put_L0 (l : List Value) (H : Heap) (N : List Value → Heap → Prop) (Qx : Nat → List Value → Heap → Prop) (Qr : List Value → Heap → Prop) : Prop :=
opP ((binC P .lss 3 false).f (nth l 4) (nth l 3)) fun t20 =>
wIf t20 (
opP (idxSl 40 (nth l 2) (nth l 4)) fun t21 =>
opW (loadAgg 40 t21 H) fun t22 H3 =>
wNew (zc P 41) H3 fun t5 H5 =>
opW (storeTo 40 t5 t22 H5) fun u H7 =>
opP (offPtr 0 t5) fun t24 =>
opW (loadOne t24 H7) fun t25 H10 =>
opW (cvInt .u8 t25 H10) fun t26 H12 =>
opW ((buildSliceC P 46 1).f [(0, t26)] H12) fun t27 H14 =>
opW (appendWith 1 1 (nth l 1) t27 H14) fun t28 H16 =>
opP (offPtr 0 t5) fun t29 =>
opW (loadOne t29 H16) fun t30 H19 =>
opP ((binC P .eql 3 true).f t30 (.int .i64 1)) fun t32 =>
wIf t32 (
opP (offPtr 1 t5) fun t34 =>
opW (loadOne t34 H19) fun t35 H23 =>
opW (cvInt .u8 t35 H23) fun t36 H25 =>
opW ((buildSliceC P 46 1).f [(0, t36)] H25) fun t37 H27 =>
opW (appendWith 1 1 t28 t37 H27) fun t38 H29 =>
opP (offPtr 3 t5) fun t40 =>
opW (loadAgg 36 t40 H29) fun t41 H32 =>
wCall P n_ref10_Bytes [t41] H32 fun t42 H34 =>
opW (appendWith 1 1 t38 t42 H34) fun t43 H36 =>
opP ((binC P .add 3 true).f (nth l 4) (.int .i64 1)) fun t68 =>
N [(nth l 0), t43, (nth l 2), (nth l 3), t68] H36) (
opP ((binC P .eql 3 true).f t30 (.int .i64 2)) fun t45 =>
wIf t45 (
opP (offPtr 2 t5) fun t47 =>
opW (loadOne t47 H19) fun t48 H41 =>
opW (cvInt .u8 t48 H41) fun t49 H43 =>
opW ((buildSliceC P 46 1).f [(0, t49)] H43) fun t50 H45 =>
opW (appendWith 1 1 t28 t50 H45) fun t51 H47 =>
opP ((binC P .add 3 true).f (nth l 4) (.int .i64 1)) fun t68_1 =>
N [(nth l 0), t51, (nth l 2), (nth l 3), t68_1] H47) (
opP ((binC P .eql 3 true).f t30 (.int .i64 3)) fun t53 =>
wIf t53 (
opP (offPtr 2 t5) fun t55 =>
opW (loadOne t55 H19) fun t56 H52 =>
opP ((binC P .add 3 true).f t56 (.int .i64 1)) fun t57 =>
opW (cvInt .u8 t57 H52) fun t58 H55 =>
opW ((buildSliceC P 46 1).f [(0, t58)] H55) fun t59 H57 =>
opW (appendWith 1 1 t28 t59 H57) fun t60 H59 =>
opP ((binC P .add 3 true).f (nth l 4) (.int .i64 1)) fun t68_2 =>
N [(nth l 0), t60, (nth l 2), (nth l 3), t68_2] H59) (
opP ((binC P .eql 3 true).f t30 (.int .i64 4)) fun t62 =>
wIf t62 (
opP (offPtr 39 t5) fun t64 =>
opW (loadOne t64 H19) fun t65 H64 =>
wCall P n_ref05_Fixed [t65, (.int .i64 8)] H64 fun t66 H66 =>
opW (appendWith 1 1 t28 t66 H66) fun t67 H68 =>
opP ((binC P .add 3 true).f (nth l 4) (.int .i64 1)) fun t68_3 =>
N [(nth l 0), t67, (nth l 2), (nth l 3), t68_3] H68) (
opP ((binC P .add 3 true).f (nth l 4) (.int .i64 1)) fun t68_4 =>
N [(nth l 0), t28, (nth l 2), (nth l 3), t68_4] H19))))) (
Qx 0 [(nth l 0), (nth l 1)] H)
theorem ref11_Put_L0_eq (l : List Value) (H : Heap) (N : List Value → Heap → Prop) (Qx : Nat → List Value → Heap → Prop) (Qr : List Value → Heap → Prop) : vcC P true 70 ref11_Put_P0 (live ref11_Put_P0 0 12) 12 (envOf (bits 70 (live ref11_Put_P0 0 12)) l) H (loopQ 70 ref11_Put_P0 12 N Qx Qr) = ref11_Put_L0 l H N Qx Qr := by kernel_rfl
theorem ref11_Put_L0_ind (I : Nat → List Value → Heap → Prop) (Qx : Nat → List Value → Heap → Prop) (Qr : List Value → Heap → Prop) (hs : ∀ k l H, I k l H → ref11_Put_L0 l H (fun l H => ∃ k', k' < k ∧ I k' l H) Qx Qr) (k : Nat) (l : List Value) (H : Heap) (h : I k l H) : wLoop P true 70 ref11_Put_P0 12 l H Qx Qr :=
  loop_ind (by kernel_rfl) I (fun k l H h => (ref11_Put_L0_eq l H _ Qx Qr).mpr (hs k l H h)) k l H h
def ref11_Put (t0 : Value) (H : Heap) (K : Value → Heap → Prop) : Prop :=
opW ((buildSliceC P 46 0).f [] H) fun t6 H1 =>
wCall P n_ref11_All [t0] H1 fun t8 H3 =>
opP (unA .not t8) fun t9 =>
wIf t9 (
K t6 H3) (
opW (lenSl t0 H3) fun t13 H6 =>
opW (cvInt .u8 t13 H6) fun t14 H8 =>
opW ((buildSliceC P 46 1).f [(0, t14)] H8) fun t15 H10 =>
opW (appendWith 1 1 t6 t15 H10) fun t16 H12 =>
opW (lenSl t0 H12) fun t18 H14 =>
wLoop P true 70 ref11_Put_P0 12 [(.slice none 0 0), t16, t0, t18, (.int .i64 0)] H14 (fun id l H16 =>
cond (Nat.beq id 0) (
K (nth l 1) H16) (
False)) (fun l H16 =>
K (nth l 0) H16))
theorem ref11_Put_eq (t0 : Value) (H : Heap) (K : Value → Heap → Prop) : vcF P n_ref11_Put [t0] H K = ref11_Put t0 H K := by kernel_rfl
theorem ref11_Put_ok {t0 : Value} {H : Heap} {K : Value → Heap → Prop} (h : ref11_Put t0 H K) : wCall P n_ref11_Put [t0] H K := wCall_of_vcF rfl ((ref11_Put_eq t0 H K).mpr h)

/-! bootjack/bootjackref11.Parse -/
def ref11_Parse (t0 : Value) (H : Heap) (K : Value → Heap → Prop) : Prop :=
wNew (zc P 37) H fun t2 H1 =>
opW (lenSl t0 H1) fun t10 H3 =>
opP ((binC P .neq 3 true).f t10 (.int .i64 102)) fun t11 =>
wIf t11 (
opP ((buildC P 37).f []) fun t12 =>
opW (storeTo 75 t2 t12 H3) fun u H7 =>
opW (loadAgg 75 t2 H7) fun r _ =>
K (.tuple [r, (.int .i64 111)].toArray) H7) (
opP ((buildC P 100).f [(0, t0)]) fun t14 =>
wNew (cellsL t14) H3 fun t15 H11 =>
wCall P n_ref10_Read [t15] H11 fun t18 H13 =>
opP (extA 0 t18) fun t19 =>
opP (extA 1 t18) fun t20 =>
wNew (zc P 34) H13 fun t5 H17 =>
opW (storeTo 36 t5 t19 H17) fun u_1 H19 =>
opP ((binC P .neq 3 true).f t20 (.int .i64 0)) fun t22 =>
wIf t22 (
opP ((buildC P 37).f []) fun t23 =>
opW (storeTo 75 t2 t23 H19) fun u_2 H23 =>
opW (loadAgg 75 t2 H23) fun r_1 _ =>
K (.tuple [r_1, (.int .i64 111)].toArray) H23) (
wCall P n_ref10_Read [t15] H19 fun t26 H26 =>
opP (extA 0 t26) fun t27 =>
opP (extA 1 t26) fun t28 =>
wNew (zc P 34) H26 fun t7 H30 =>
opW (storeTo 36 t7 t27 H30) fun u_3 H32 =>
opW (loadAgg 36 t5 H32) fun t29 H34 =>
opW (loadAgg 36 t7 H34) fun t30 H36 =>
opP ((buildC P 35).f [(0, t29), (1, t30)]) fun t31 =>
opP (idxSl 1 t0 (.int .i64 92)) fun t33 =>
opW (loadOne t33 H36) fun t34 H40 =>
opW (cvInt .i64 t34 H40) fun t35 H42 =>
opP (idxSl 1 t0 (.int .i64 93)) fun t37 =>
opW (loadOne t37 H42) fun t38 H45 =>
opW (cvInt .i64 t38 H45) fun t39 H47 =>
opP ((binC P .sub 3 true).f t39 (.int .i64 1)) fun t40 =>
opP (sliceSl 1 t0 (some (.int .i64 94)) none none) fun t42 =>
wCall P n_ref11_number [t42] H47 fun t43 H51 =>
cSame (sameB H47 H51) (idsOf [t37]) ∧ (cSame (sameB H47 H51) (idsOf [t33]) ∧ (cSame (sameB H47 H51) (idsOf [t7]) ∧ (cSame (sameB H47 H51) (idsOf [t5]) ∧ (opP ((buildC P 37).f [(0, t31), (1, t35), (2, t40), (3, t43)]) fun t44 =>
wNew (zc P 37) H51 fun t8 H54 =>
opW (storeTo 75 t8 t44 H54) fun u_4 H56 =>
wJoin (fun J =>
opP ((binC P .neq 3 true).f t28 (.int .i64 0)) fun t46 =>
wIf t46 (
opP (pickA t46 (.bool true) undef) fun t51 =>
J [t2, t8, t51] H56) (
opW (loadAgg 75 t8 H56) fun t48 H61 =>
wCall P n_ref11_Right [t48] H61 fun t49 H63 =>
opP (unA .not t49) fun t50 =>
opP (pickA t46 (.bool true) t50) fun t51_1 =>
J [t2, t8, t51_1] H63)) (fun l H67 =>
wIf (nth l 2) (
opP ((buildC P 37).f []) fun t52 =>
opW (storeTo 75 (nth l 0) t52 H67) fun u_5 H70 =>
opW (loadAgg 75 (nth l 0) H70) fun r_2 _ =>
K (.tuple [r_2, (.int .i64 111)].toArray) H70) (
opW (loadAgg 75 (nth l 1) H67) fun t53 H73 =>
opW (storeTo 75 (nth l 0) t53 H73) fun u_6 H75 =>
opW (loadAgg 75 (nth l 0) H75) fun r_3 _ =>
K (.tuple [r_3, (.int .i64 0)].toArray) H75))))))))
theorem ref11_Parse_eq (t0 : Value) (H : Heap) (K : Value → Heap → Prop) : vcF P n_ref11_Parse [t0] H K = ref11_Parse t0 H K := by kernel_rfl
theorem ref11_Parse_ok {t0 : Value} {H : Heap} {K : Value → Heap → Prop} (h : ref11_Parse t0 H K) : wCall P n_ref11_Parse [t0] H K := wCall_of_vcF rfl ((ref11_Parse_eq t0 H K).mpr h)

/-! bootjack/bootjackref11.Get -/
noncomputable abbrev ref11_Get_P0 : Code := loopAt P n_ref11_Get 0
/-- loop 0: goes on from the slots [0, 2, 3, 4, 5, 6, 7]; leaves [0, 2, 3, 4, 6] -/
def ref11_Get_L0 (l : List Value) (H : Heap) (N : List Value → Heap → Prop) (Qx : Nat → List Value → Heap → Prop) (Qr : List Value → Heap → Prop) : Prop :=
wJoin (fun J =>
opP ((binC P .lss 3 false).f (nth l 6) (nth l 4)) fun t18 =>
wIf t18 (
opP ((binC P .lss 3 true).f (nth l 6) (.int .i64 9)) fun t21 =>
opP (pickA t18 t21 (.bool false)) fun t22 =>
wIf t22 (
J [(nth l 0), (nth l 1), (nth l 2), (nth l 3), (nth l 4), (nth l 5), (nth l 6)] H) (
Qx 0 [(nth l 0), (nth l 1), (nth l 2), (nth l 3), (nth l 5)] H)) (
opP (pickA t18 undef (.bool false)) fun t22_1 =>
wIf t22_1 (
J [(nth l 0), (nth l 1), (nth l 2), (nth l 3), (nth l 4), (nth l 5), (nth l 6)] H) (
Qx 0 [(nth l 0), (nth l 1), (nth l 2), (nth l 3), (nth l 5)] H))) (fun l_1 H6 =>
wCall P n_ref05_FixedOf [(nth l_1 3), (.int .i64 1)] H6 fun t26 H8 =>
opW (cvInt .i64 t26 H8) fun t27 H10 =>
opP ((buildC P 41).f [(0, t27)]) fun t28 =>
wNew (zc P 41) H10 fun t8 H13 =>
opW (storeTo 40 t8 t28 H13) fun u H15 =>
opP (offPtr 0 t8) fun t29 =>
opW (loadOne t29 H15) fun t30 H18 =>
opP ((binC P .eql 3 true).f t30 (.int .i64 1)) fun t32 =>
wIf t32 (
wCall P n_ref05_FixedOf [(nth l_1 3), (.int .i64 1)] H18 fun t34 H21 =>
opW (cvInt .i64 t34 H21) fun t35 H23 =>
opP (offPtr 1 t8) fun t36 =>
opW (storeTo 1 t36 t35 H23) fun u_1 H26 =>
wCall P n_ref10_Read [(nth l_1 3)] H26 fun t39 H28 =>
opP (extA 0 t39) fun t40 =>
opP (extA 1 t39) fun t41 =>
opP (offPtr 3 t8) fun t42 =>
opW (storeTo 36 t42 t40 H28) fun u_2 H33 =>
opW (loadAgg 40 t8 H33) fun t62 H35 =>
opW ((buildSliceC P 43 1).f [(0, t62)] H35) fun t63 H37 =>
opW (appendWith 40 96 (nth l_1 5) t63 H37) fun t64 H39 =>
opP ((binC P .add 3 true).f (nth l_1 6) (.int .i64 1)) fun t24 =>
N [(nth l_1 0), (nth l_1 1), (nth l_1 2), (nth l_1 3), (nth l_1 4), t64, t24] H39) (
opP ((binC P .eql 3 true).f t30 (.int .i64 2)) fun t44 =>
wIf t44 (
wCall P n_ref05_FixedOf [(nth l_1 3), (.int .i64 1)] H18 fun t46 H43 =>
opW (cvInt .i64 t46 H43) fun t47 H45 =>
opP (offPtr 2 t8) fun t48 =>
opW (storeTo 1 t48 t47 H45) fun u_3 H48 =>
opW (loadAgg 40 t8 H48) fun t62_1 H50 =>
opW ((buildSliceC P 43 1).f [(0, t62_1)] H50) fun t63_1 H52 =>
opW (appendWith 40 96 (nth l_1 5) t63_1 H52) fun t64_1 H54 =>
opP ((binC P .add 3 true).f (nth l_1 6) (.int .i64 1)) fun t24_1 =>
N [(nth l_1 0), (nth l_1 1), (nth l_1 2), (nth l_1 3), (nth l_1 4), t64_1, t24_1] H54) (
opP ((binC P .eql 3 true).f t30 (.int .i64 3)) fun t50 =>
wIf t50 (
wCall P n_ref05_FixedOf [(nth l_1 3), (.int .i64 1)] H18 fun t52 H58 =>
opW (cvInt .i64 t52 H58) fun t53 H60 =>
opP ((binC P .sub 3 true).f t53 (.int .i64 1)) fun t54 =>
opP (offPtr 2 t8) fun t55 =>
opW (storeTo 1 t55 t54 H60) fun u_4 H64 =>
opW (loadAgg 40 t8 H64) fun t62_2 H66 =>
opW ((buildSliceC P 43 1).f [(0, t62_2)] H66) fun t63_2 H68 =>
opW (appendWith 40 96 (nth l_1 5) t63_2 H68) fun t64_2 H70 =>
opP ((binC P .add 3 true).f (nth l_1 6) (.int .i64 1)) fun t24_2 =>
N [(nth l_1 0), (nth l_1 1), (nth l_1 2), (nth l_1 3), (nth l_1 4), t64_2, t24_2] H70) (
opP ((binC P .eql 3 true).f t30 (.int .i64 4)) fun t57 =>
wIf t57 (
wCall P n_ref05_FixedOf [(nth l_1 3), (.int .i64 8)] H18 fun t59 H74 =>
opP (offPtr 39 t8) fun t60 =>
opW (storeTo 1 t60 t59 H74) fun u_5 H77 =>
opW (loadAgg 40 t8 H77) fun t62_3 H79 =>
opW ((buildSliceC P 43 1).f [(0, t62_3)] H79) fun t63_3 H81 =>
opW (appendWith 40 96 (nth l_1 5) t63_3 H81) fun t64_3 H83 =>
opP ((binC P .add 3 true).f (nth l_1 6) (.int .i64 1)) fun t24_3 =>
N [(nth l_1 0), (nth l_1 1), (nth l_1 2), (nth l_1 3), (nth l_1 4), t64_3, t24_3] H83) (
opW (loadAgg 40 t8 H18) fun t62_4 H86 =>
opW ((buildSliceC P 43 1).f [(0, t62_4)] H86) fun t63_4 H88 =>
opW (appendWith 40 96 (nth l_1 5) t63_4 H88) fun t64_4 H90 =>
opP ((binC P .add 3 true).f (nth l_1 6) (.int .i64 1)) fun t24_4 =>
N [(nth l_1 0), (nth l_1 1), (nth l_1 2), (nth l_1 3), (nth l_1 4), t64_4, t24_4] H90)))))
theorem ref11_Get_L0_eq (l : List Value) (H : Heap) (N : List Value → Heap → Prop) (Qx : Nat → List Value → Heap → Prop) (Qr : List Value → Heap → Prop) : vcC P true 77 ref11_Get_P0 (live ref11_Get_P0 0 93) 93 (envOf (bits 77 (live ref11_Get_P0 0 93)) l) H (loopQ 77 ref11_Get_P0 93 N Qx Qr) = ref11_Get_L0 l H N Qx Qr := by kernel_rfl
theorem ref11_Get_L0_ind (I : Nat → List Value → Heap → Prop) (Qx : Nat → List Value → Heap → Prop) (Qr : List Value → Heap → Prop) (hs : ∀ k l H, I k l H → ref11_Get_L0 l H (fun l H => ∃ k', k' < k ∧ I k' l H) Qx Qr) (k : Nat) (l : List Value) (H : Heap) (h : I k l H) : wLoop P true 77 ref11_Get_P0 93 l H Qx Qr :=
  loop_ind (by kernel_rfl) I (fun k l H h => (ref11_Get_L0_eq l H _ Qx Qr).mpr (hs k l H h)) k l H h
def ref11_Get (t0 : Value) (H : Heap) (K : Value → Heap → Prop) : Prop :=
opP ((buildC P 100).f [(0, t0)]) fun t10 =>
wNew (cellsL t10) H fun t11 H2 =>
wCall P n_ref05_FixedOf [t11, (.int .i64 1)] H2 fun t13 H4 =>
opW (cvInt .i64 t13 H4) fun t14 H6 =>
opW ((buildSliceC P 43 0).f [] H6) fun t15 H8 =>
wLoop P true 77 ref11_Get_P0 93 [t0, (.slice none 0 0), (.int .i64 0), t11, t14, t15, (.int .i64 0)] H8 (fun id l H10 =>
cond (Nat.beq id 0) (
wJoin (fun J =>
wCall P n_ref05_End [(nth l 3)] H10 fun t66 H13 =>
opP ((binC P .neq 3 true).f t66 (.int .i64 0)) fun t67 =>
wIf t67 (
opP (pickA t67 (.bool true) undef) fun t75 =>
J [(nth l 4), t75] H13) (
wCall P n_ref11_Put [(nth l 4)] H13 fun t70 H17 =>
opW (bytesToStr t70 H17) fun t71 H19 =>
opW (bytesToStr (nth l 0) H19) fun t73 H21 =>
cSame (sameB H13 H17) (idsOf [(nth l 0)]) ∧ (opP ((binC P .neq 9 false).f t71 t73) fun t74 =>
opP (pickA t67 (.bool true) t74) fun t75_1 =>
J [(nth l 4), t75_1] H21))) (fun l_1 H25 =>
wIf (nth l_1 1) (
K (.tuple [(.slice none 0 0), (.int .i64 111)].toArray) H25) (
K (.tuple [(nth l_1 0), (.int .i64 0)].toArray) H25))) (
False)) (fun l H10 =>
K (.tuple [(nth l 1), (nth l 2)].toArray) H10)
theorem ref11_Get_eq (t0 : Value) (H : Heap) (K : Value → Heap → Prop) : vcF P n_ref11_Get [t0] H K = ref11_Get t0 H K := by kernel_rfl
theorem ref11_Get_ok {t0 : Value} {H : Heap} {K : Value → Heap → Prop} (h : ref11_Get t0 H K) : wCall P n_ref11_Get [t0] H K := wCall_of_vcF rfl ((ref11_Get_eq t0 H K).mpr h)

/-! bootjack/bootjacklaw11.same -/
noncomputable abbrev law11_same_P0 : Code := loopAt P n_law11_same 0
/-- loop 0: goes on from the slots [0, 1, 4, 12, 13]; leaves [4] -/
def law11_same_L0 (l : List Value) (H : Heap) (N : List Value → Heap → Prop) (Qx : Nat → List Value → Heap → Prop) (Qr : List Value → Heap → Prop) : Prop :=
opP ((binC P .lss 3 false).f (nth l 4) (nth l 3)) fun t14 =>
wIf t14 (
opP (idxSl 40 (nth l 0) (nth l 4)) fun t18 =>
opW (loadAgg 40 t18 H) fun t19 H3 =>
opP (idxSl 40 (nth l 1) (nth l 4)) fun t22 =>
opW (loadAgg 40 t22 H3) fun t23 H6 =>
opP ((binC P .neq 41 false).f t19 t23) fun t24 =>
wIf t24 (
Qr [(.bool false)] H6) (
opP ((binC P .add 3 true).f (nth l 4) (.int .i64 1)) fun t25 =>
N [(nth l 0), (nth l 1), (nth l 2), (nth l 3), t25] H6)) (
Qx 0 [(nth l 2)] H)
theorem law11_same_L0_eq (l : List Value) (H : Heap) (N : List Value → Heap → Prop) (Qx : Nat → List Value → Heap → Prop) (Qr : List Value → Heap → Prop) : vcC P true 26 law11_same_P0 (live law11_same_P0 0 16) 16 (envOf (bits 26 (live law11_same_P0 0 16)) l) H (loopQ 26 law11_same_P0 16 N Qx Qr) = law11_same_L0 l H N Qx Qr := by kernel_rfl
theorem law11_same_L0_ind (I : Nat → List Value → Heap → Prop) (Qx : Nat → List Value → Heap → Prop) (Qr : List Value → Heap → Prop) (hs : ∀ k l H, I k l H → law11_same_L0 l H (fun l H => ∃ k', k' < k ∧ I k' l H) Qx Qr) (k : Nat) (l : List Value) (H : Heap) (h : I k l H) : wLoop P true 26 law11_same_P0 16 l H Qx Qr :=
  loop_ind (by kernel_rfl) I (fun k l H h => (law11_same_L0_eq l H _ Qx Qr).mpr (hs k l H h)) k l H h
def law11_same (t0 t1 : Value) (H : Heap) (K : Value → Heap → Prop) : Prop :=
opW (lenSl t0 H) fun t7 H1 =>
opW (lenSl t1 H1) fun t9 H3 =>
opP ((binC P .neq 3 false).f t7 t9) fun t10 =>
wIf t10 (
K (.bool false) H3) (
opW (lenSl t0 H3) fun t12 H6 =>
wLoop P true 26 law11_same_P0 16 [t0, t1, (.bool false), t12, (.int .i64 0)] H6 (fun id l H8 =>
cond (Nat.beq id 0) (
K (.bool true) H8) (
False)) (fun l H8 =>
K (nth l 0) H8))
theorem law11_same_eq (t0 t1 : Value) (H : Heap) (K : Value → Heap → Prop) : vcF P n_law11_same [t0, t1] H K = law11_same t0 t1 H K := by kernel_rfl
theorem law11_same_ok {t0 t1 : Value} {H : Heap} {K : Value → Heap → Prop} (h : law11_same t0 t1 H K) : wCall P n_law11_same [t0, t1] H K := wCall_of_vcF rfl ((law11_same_eq t0 t1 H K).mpr h)

/-! bootjack/bootjackref10.Right -/
def ref10_Right (t0 : Value) (H : Heap) (K : Value → Heap → Prop) : Prop :=
wNew (cellsL t0) H fun t1 H1 =>
wJoin (fun J =>
opP (offPtr 1 t1) fun t5 =>
opW (loadOne t5 H1) fun t6 H5 =>
opP ((binC P .eql 3 true).f t6 (.int .i64 0)) fun t7 =>
wIf t7 (
opP (offPtr 2 t1) fun t9 =>
opW (loadOne t9 H5) fun t10 H9 =>
opP ((binC P .eql 30 true).f t10 (.int .u64 0)) fun t11 =>
opP (pickA t7 t11 (.bool false)) fun t12 =>
wIf t12 (
opP (offPtr 3 t1) fun t14 =>
opW (loadOne t14 H9) fun t15 H14 =>
opP ((binC P .eql 3 true).f t15 (.int .i64 0)) fun t16 =>
opP (pickA t12 t16 (.bool false)) fun t17 =>
wIf t17 (
opP (offPtr 4 t1) fun t19 =>
opW (loadAgg 32 t19 H14) fun t20 H19 =>
opP ((buildC P 32).f []) fun t21 =>
opP ((binC P .eql 32 false).f t20 t21) fun t22 =>
opP (pickA t17 t22 (.bool false)) fun t23 =>
J [t1, t23] H19) (
opP (pickA t17 undef (.bool false)) fun t23_1 =>
J [t1, t23_1] H14)) (
opP (pickA t12 undef (.bool false)) fun t17_1 =>
opP (pickA t17_1 undef (.bool false)) fun t23_2 =>
J [t1, t23_2] H9)) (
opP (pickA t7 undef (.bool false)) fun t12_1 =>
opP (pickA t12_1 undef (.bool false)) fun t17_2 =>
opP (pickA t17_2 undef (.bool false)) fun t23_3 =>
J [t1, t23_3] H5)) (fun l H30 =>
wJoin (fun J_1 =>
opP (offPtr 2 (nth l 0)) fun t24 =>
opW (loadOne t24 H30) fun t25 H34 =>
opP ((binC P .geq 30 true).f t25 (.int .u64 1)) fun t26 =>
wIf t26 (
opP (offPtr 2 (nth l 0)) fun t28 =>
opW (loadOne t28 H34) fun t29 H38 =>
opP ((binC P .leq 30 true).f t29 (.int .u64 281474976710656)) fun t30 =>
opP (pickA t26 t30 (.bool false)) fun t31 =>
wIf t31 (
opP (offPtr 3 (nth l 0)) fun t33 =>
opW (loadOne t33 H38) fun t34 H43 =>
opP ((binC P .geq 3 true).f t34 (.int .i64 1)) fun t35 =>
opP (pickA t31 t35 (.bool false)) fun t36 =>
wIf t36 (
opP (offPtr 3 (nth l 0)) fun t38 =>
opW (loadOne t38 H43) fun t39 H48 =>
opP ((binC P .leq 3 true).f t39 (.int .i64 65536)) fun t40 =>
opP (pickA t36 t40 (.bool false)) fun t41 =>
J_1 [(nth l 0), (nth l 1), t41] H48) (
opP (pickA t36 undef (.bool false)) fun t41_1 =>
J_1 [(nth l 0), (nth l 1), t41_1] H43)) (
opP (pickA t31 undef (.bool false)) fun t36_1 =>
opP (pickA t36_1 undef (.bool false)) fun t41_2 =>
J_1 [(nth l 0), (nth l 1), t41_2] H38)) (
opP (pickA t26 undef (.bool false)) fun t31_1 =>
opP (pickA t31_1 undef (.bool false)) fun t36_2 =>
opP (pickA t36_2 undef (.bool false)) fun t41_3 =>
J_1 [(nth l 0), (nth l 1), t41_3] H34)) (fun l_1 H58 =>
wJoin (fun J_2 =>
opP (offPtr 0 (nth l_1 0)) fun t42 =>
opW (loadOne t42 H58) fun t43 H62 =>
opP ((binC P .eql 3 true).f t43 (.int .i64 0)) fun t44 =>
wIf t44 (
opP (pickA t44 (.bool true) undef) fun t49 =>
opP (pickA t49 (.bool true) undef) fun t54 =>
J_2 [(nth l_1 0), (nth l_1 1), (nth l_1 2), t54] H62) (
opP (offPtr 0 (nth l_1 0)) fun t46 =>
opW (loadOne t46 H62) fun t47 H68 =>
opP ((binC P .eql 3 true).f t47 (.int .i64 1)) fun t48 =>
opP (pickA t44 (.bool true) t48) fun t49_1 =>
wIf t49_1 (
opP (pickA t49_1 (.bool true) undef) fun t54_1 =>
J_2 [(nth l_1 0), (nth l_1 1), (nth l_1 2), t54_1] H68) (
opP (offPtr 0 (nth l_1 0)) fun t51 =>
opW (loadOne t51 H68) fun t52 H74 =>
opP ((binC P .eql 3 true).f t52 (.int .i64 4)) fun t53 =>
opP (pickA t49_1 (.bool true) t53) fun t54_2 =>
J_2 [(nth l_1 0), (nth l_1 1), (nth l_1 2), t54_2] H74))) (fun l_2 H78 =>
wIf (nth l_2 3) (
K (nth l_2 1) H78) (
opP (offPtr 0 (nth l_2 0)) fun t56 =>
opW (loadOne t56 H78) fun t57 H81 =>
opP ((binC P .eql 3 true).f t57 (.int .i64 2)) fun t58 =>
wIf t58 (
wIf (nth l_2 2) (
opP (offPtr 1 (nth l_2 0)) fun t61 =>
opW (loadOne t61 H81) fun t62 H85 =>
opP ((binC P .geq 3 true).f t62 (.int .i64 0)) fun t63 =>
opP (pickA (nth l_2 2) t63 (.bool false)) fun t64 =>
wIf t64 (
opP (offPtr 1 (nth l_2 0)) fun t66 =>
opW (loadOne t66 H85) fun t67 H90 =>
opP ((binC P .leq 3 true).f t67 (.int .i64 7)) fun t68 =>
opP (pickA t64 t68 (.bool false)) fun t69 =>
K t69 H90) (
opP (pickA t64 undef (.bool false)) fun t69_1 =>
K t69_1 H85)) (
opP (pickA (nth l_2 2) undef (.bool false)) fun t64_1 =>
opP (pickA t64_1 undef (.bool false)) fun t69_2 =>
K t69_2 H81)) (
opP (offPtr 0 (nth l_2 0)) fun t70 =>
opW (loadOne t70 H81) fun t71 H98 =>
opP ((binC P .eql 3 true).f t71 (.int .i64 3)) fun t72 =>
wIf t72 (
opP (pickA t72 (nth l_2 2) (.bool false)) fun t75 =>
wIf t75 (
opP (offPtr 1 (nth l_2 0)) fun t77 =>
opW (loadOne t77 H98) fun t78 H103 =>
opP ((binC P .eql 3 true).f t78 (.int .i64 0)) fun t79 =>
opP (pickA t75 t79 (.bool false)) fun t80 =>
K t80 H103) (
opP (pickA t75 undef (.bool false)) fun t80_1 =>
K t80_1 H98)) (
opP (pickA t72 undef (.bool false)) fun t75_1 =>
opP (pickA t75_1 undef (.bool false)) fun t80_2 =>
K t80_2 H98))))))
theorem ref10_Right_eq (t0 : Value) (H : Heap) (K : Value → Heap → Prop) : vcF P n_ref10_Right [t0] H K = ref10_Right t0 H K := by kernel_rfl
theorem ref10_Right_ok {t0 : Value} {H : Heap} {K : Value → Heap → Prop} (h : ref10_Right t0 H K) : wCall P n_ref10_Right [t0] H K := wCall_of_vcF rfl ((ref10_Right_eq t0 H K).mpr h)

/-! bootjack/table.transaction -/
noncomputable abbrev table_transaction_P0 : Code := loopAt P n_table_transaction 0
/-- loop 0: goes on from the slots [2, 8, 9, 10]; leaves [2] -/
def table_transaction_L0 (l : List Value) (H : Heap) (N : List Value → Heap → Prop) (Qx : Nat → List Value → Heap → Prop) (Qr : List Value → Heap → Prop) : Prop :=
opP ((binC P .lss 3 false).f (nth l 3) (nth l 2)) fun t11 =>
wIf t11 (
opP (idxSl 40 (nth l 1) (nth l 3)) fun t12 =>
opW (loadAgg 40 t12 H) fun t13 H3 =>
wNew (zc P 41) H3 fun t4 H5 =>
opW (storeTo 40 t4 t13 H5) fun u H7 =>
opW (loadAgg 40 t4 H7) fun t14 H9 =>
wCall P n_table_right [t14] H9 fun t15 H11 =>
opP (unA .not t15) fun t16 =>
wIf t16 (
Qr [(.bool false)] H11) (
opP ((binC P .add 3 true).f (nth l 3) (.int .i64 1)) fun t17 =>
N [(nth l 0), (nth l 1), (nth l 2), t17] H11)) (
Qx 0 [(nth l 0)] H)
theorem table_transaction_L0_eq (l : List Value) (H : Heap) (N : List Value → Heap → Prop) (Qx : Nat → List Value → Heap → Prop) (Qr : List Value → Heap → Prop) : vcC P true 18 table_transaction_P0 (live table_transaction_P0 0 4) 4 (envOf (bits 18 (live table_transaction_P0 0 4)) l) H (loopQ 18 table_transaction_P0 4 N Qx Qr) = table_transaction_L0 l H N Qx Qr := by kernel_rfl
theorem table_transaction_L0_ind (I : Nat → List Value → Heap → Prop) (Qx : Nat → List Value → Heap → Prop) (Qr : List Value → Heap → Prop) (hs : ∀ k l H, I k l H → table_transaction_L0 l H (fun l H => ∃ k', k' < k ∧ I k' l H) Qx Qr) (k : Nat) (l : List Value) (H : Heap) (h : I k l H) : wLoop P true 18 table_transaction_P0 4 l H Qx Qr :=
  loop_ind (by kernel_rfl) I (fun k l H h => (table_transaction_L0_eq l H _ Qx Qr).mpr (hs k l H h)) k l H h
def table_transaction (t0 : Value) (H : Heap) (K : Value → Heap → Prop) : Prop :=
opW (lenSl t0 H) fun t6 H1 =>
opP ((binC P .gtr 3 true).f t6 (.int .i64 8)) fun t7 =>
wIf t7 (
K (.bool false) H1) (
opW (lenSl t0 H1) fun t9 H4 =>
wLoop P true 18 table_transaction_P0 4 [(.bool false), t0, t9, (.int .i64 0)] H4 (fun id l H6 =>
cond (Nat.beq id 0) (
K (.bool true) H6) (
False)) (fun l H6 =>
K (nth l 0) H6))
theorem table_transaction_eq (t0 : Value) (H : Heap) (K : Value → Heap → Prop) : vcF P n_table_transaction [t0] H K = table_transaction t0 H K := by kernel_rfl
theorem table_transaction_ok {t0 : Value} {H : Heap} {K : Value → Heap → Prop} (h : table_transaction t0 H K) : wCall P n_table_transaction [t0] H K := wCall_of_vcF rfl ((table_transaction_eq t0 H K).mpr h)

/-! bootjack/code.New -/
def code_New (t0 : Value) (H : Heap) (K : Value → Heap → Prop) : Prop :=
opP ((buildC P 132).f [(0, t0)]) fun t4 =>
wNew (cellsL t4) H fun t5 H2 =>
K t5 H2
theorem code_New_eq (t0 : Value) (H : Heap) (K : Value → Heap → Prop) : vcF P n_code_New [t0] H K = code_New t0 H K := by kernel_rfl
theorem code_New_ok {t0 : Value} {H : Heap} {K : Value → Heap → Prop} (h : code_New t0 H K) : wCall P n_code_New [t0] H K := wCall_of_vcF rfl ((code_New_eq t0 H K).mpr h)

/-! bootjack/slot.Read -/
def slot_Read (t0 : Value) (H : Heap) (K : Value → Heap → Prop) : Prop :=
wNew (zc P 34) H fun t2 H1 =>
wCall P n_code_Reader_Raw [t0, (.int .i64 46)] H1 fun t9 H3 =>
wCall P n_code_Reader_Err [t0] H3 fun t11 H5 =>
opP ((binC P .neq 24 true).f t11 (.int .i64 0)) fun t13 =>
wIf t13 (
opP ((buildC P 34).f []) fun t14 =>
opW (storeTo 36 t2 t14 H5) fun u H9 =>
opW (loadAgg 36 t2 H9) fun r _ =>
K (.tuple [r, t11].toArray) H9) (
wCall P n_code_New [t9] H5 fun t17 H12 =>
wCall P n_code_Reader_Fixed [t17, (.int .i64 1)] H12 fun t19 H14 =>
opW (cvInt .i64 t19 H14) fun t20 H16 =>
wCall P n_code_Reader_Fixed [t17, (.int .i64 1)] H16 fun t22 H18 =>
opW (cvInt .i64 t22 H18) fun t23 H20 =>
wCall P n_code_Reader_Fixed [t17, (.int .i64 8)] H20 fun t25 H22 =>
wCall P n_code_Reader_Fixed [t17, (.int .i64 4)] H22 fun t27 H24 =>
opW (cvInt .i64 t27 H24) fun t28 H26 =>
opP ((buildC P 34).f [(0, t20), (1, t23), (2, t25), (3, t28)]) fun t29 =>
wNew (zc P 34) H26 fun t7 H29 =>
opW (storeTo 36 t7 t29 H29) fun u_1 H31 =>
opP (offPtr 4 t7) fun t30 =>
opP (sliceArr 32 1 t30 none none none H31) fun t31 =>
wCall P n_code_Reader_Raw [t17, (.int .i64 32)] H31 fun t33 H35 =>
cSame (sameB H31 H35) (idsOf [t30]) ∧ (opW (copyTo 1 t31 t33 H35) fun t34 H37 =>
opW (loadAgg 36 t7 H37) fun t35 H39 =>
wCall P n_slot_Right [t35] H39 fun t36 H41 =>
opP (unA .not t36) fun t37 =>
wIf t37 (
opP ((buildC P 34).f []) fun t38 =>
opW (storeTo 36 t2 t38 H41) fun u_2 H45 =>
opW (loadAgg 36 t2 H45) fun r_1 _ =>
K (.tuple [r_1, (.int .i64 101)].toArray) H45) (
opW (loadAgg 36 t7 H41) fun t39 H48 =>
opW (storeTo 36 t2 t39 H48) fun u_3 H50 =>
opW (loadAgg 36 t2 H50) fun r_2 _ =>
K (.tuple [r_2, (.int .i64 0)].toArray) H50)))
theorem slot_Read_eq (t0 : Value) (H : Heap) (K : Value → Heap → Prop) : vcF P n_slot_Read [t0] H K = slot_Read t0 H K := by kernel_rfl
theorem slot_Read_ok {t0 : Value} {H : Heap} {K : Value → Heap → Prop} (h : slot_Read t0 H K) : wCall P n_slot_Read [t0] H K := wCall_of_vcF rfl ((slot_Read_eq t0 H K).mpr h)

/-! (*bootjack/code.Reader).Fixed -/
noncomputable abbrev code_Reader_Fixed_RP0 : List Tmp × Code × Code := rangeAt P n_code_Reader_Fixed 0
/-- range 0: of the slots [5, 14] -/
def code_Reader_Fixed_R0 (vals args : List Value) (l : Nat) (H : Heap) (K : Value → Heap → Prop) : Prop :=
wBegin l H fun H0 =>
opW (loadOne (nth vals 0) H0) fun t15 H2 =>
opP ((binC P .shl 30 true).f t15 (.int .u64 8)) fun t16 =>
opW (cvInt .u64 (nth args 1) H2) fun t18 H5 =>
opP ((binC P .or 30 false).f t16 t18) fun t19 =>
opW (storeTo 1 (nth vals 0) t19 H5) fun u H8 =>
wEnd l .normal H8 K
theorem code_Reader_Fixed_R0_eq (vals args : List Value) (l : Nat) (H : Heap) (K : Value → Heap → Prop) : vcRound P 21 code_Reader_Fixed_RP0.1 code_Reader_Fixed_RP0.2.1 code_Reader_Fixed_RP0.2.2 vals args l H K = code_Reader_Fixed_R0 vals args l H K := by kernel_rfl
def code_Reader_Fixed (t0 t1 : Value) (H : Heap) (K : Value → Heap → Prop) : Prop :=
wNew (zc P 30) H fun t5 H1 =>
opW (storeTo 1 t5 (.int .u64 0) H1) fun u H3 =>
wCall P n_code_within [t1] H3 fun t10 H5 =>
wCall P n_code_Reader_take [t0, t10] H5 fun t11 H7 =>
wCall P n_slices_Backward_byte_byte [t11] H7 fun t12 H9 =>
wRange P 21 code_Reader_Fixed_RP0.1 code_Reader_Fixed_RP0.2.1 code_Reader_Fixed_RP0.2.2 [t5, undef] t12 H9 (fun H10 =>
opW (loadOne t5 H10) fun t20 H12 =>
K t20 H12) (fun id H10 =>
cond (Nat.beq id 0) (
opW (loadOne t5 H10) fun t20_1 H14 =>
K t20_1 H14) (
False)) (fun H10 =>
K (.int .u64 0) H10)
theorem code_Reader_Fixed_eq (t0 t1 : Value) (H : Heap) (K : Value → Heap → Prop) : vcF P n_code_Reader_Fixed [t0, t1] H K = code_Reader_Fixed t0 t1 H K := by kernel_rfl
theorem code_Reader_Fixed_ok {t0 t1 : Value} {H : Heap} {K : Value → Heap → Prop} (h : code_Reader_Fixed t0 t1 H K) : wCall P n_code_Reader_Fixed [t0, t1] H K := wCall_of_vcF rfl ((code_Reader_Fixed_eq t0 t1 H K).mpr h)

/-! (*bootjack/code.Reader).End -/
def code_Reader_End (t0 : Value) (H : Heap) (K : Value → Heap → Prop) : Prop :=
opP (nilCheckA t0) fun t4 =>
opP (offPtr 1 t4) fun t5 =>
opW (loadOne t5 H) fun t6 H3 =>
opP ((binC P .eql 24 true).f t6 (.int .i64 0)) fun t7 =>
wIf t7 (
opP (nilCheckA t0) fun t10 =>
opP (offPtr 0 t10) fun t11 =>
opW (loadOne t11 H3) fun t12 H8 =>
opW (lenSl t12 H8) fun t13 H10 =>
opP ((binC P .gtr 3 true).f t13 (.int .i64 0)) fun t14 =>
opP (pickA t7 t14 (.bool false)) fun t15 =>
wIf t15 (
K (.int .i64 52) H10) (
opP (nilCheckA t0) fun t17 =>
opP (offPtr 1 t17) fun t18 =>
opW (loadOne t18 H10) fun t19 H16 =>
K t19 H16)) (
opP (pickA t7 undef (.bool false)) fun t15_1 =>
wIf t15_1 (
K (.int .i64 52) H3) (
opP (nilCheckA t0) fun t17_1 =>
opP (offPtr 1 t17_1) fun t18_1 =>
opW (loadOne t18_1 H3) fun t19_1 H21 =>
K t19_1 H21))
theorem code_Reader_End_eq (t0 : Value) (H : Heap) (K : Value → Heap → Prop) : vcF P n_code_Reader_End [t0] H K = code_Reader_End t0 H K := by kernel_rfl
theorem code_Reader_End_ok {t0 : Value} {H : Heap} {K : Value → Heap → Prop} (h : code_Reader_End t0 H K) : wCall P n_code_Reader_End [t0] H K := wCall_of_vcF rfl ((code_Reader_End_eq t0 H K).mpr h)

/-! bootjack/table.change -/
def table_change (t0 : Value) (H : Heap) (K : Value → Heap → Prop) : Prop :=
wNew (zc P 41) H fun t2 H1 =>
wCall P n_code_Reader_Fixed [t0, (.int .i64 1)] H1 fun t8 H3 =>
opW (cvInt .i64 t8 H3) fun t9 H5 =>
opP ((buildC P 41).f [(0, t9)]) fun t10 =>
wNew (zc P 41) H5 fun t4 H8 =>
opW (storeTo 40 t4 t10 H8) fun u H10 =>
wJoin (fun J =>
opP (offPtr 0 t4) fun t11 =>
opW (loadOne t11 H10) fun t12 H14 =>
opP ((binC P .eql 3 true).f t12 (.int .i64 1)) fun t14 =>
wIf t14 (
wCall P n_code_Reader_Fixed [t0, (.int .i64 1)] H14 fun t16 H17 =>
opW (cvInt .i64 t16 H17) fun t17 H19 =>
opP (offPtr 1 t4) fun t18 =>
opW (storeTo 1 t18 t17 H19) fun u_1 H22 =>
wCall P n_slot_Read [t0] H22 fun t21 H24 =>
opP (extA 0 t21) fun t22 =>
opP (extA 1 t21) fun t23 =>
wNew (zc P 34) H24 fun t5 H28 =>
opW (storeTo 36 t5 t22 H28) fun u_2 H30 =>
opP ((binC P .neq 24 true).f t23 (.int .i64 0)) fun t25 =>
wIf t25 (
opP ((buildC P 41).f []) fun t26 =>
opW (storeTo 40 t2 t26 H30) fun u_3 H34 =>
opW (loadAgg 40 t2 H34) fun r _ =>
K (.tuple [r, (.int .i64 111)].toArray) H34) (
opW (loadAgg 36 t5 H30) fun t27 H37 =>
opP (offPtr 3 t4) fun t28 =>
opW (storeTo 36 t28 t27 H37) fun u_4 H40 =>
J [t0, t2, t4] H40)) (
opP ((binC P .eql 3 true).f t12 (.int .i64 2)) fun t30 =>
wIf t30 (
wCall P n_code_Reader_Fixed [t0, (.int .i64 1)] H14 fun t32 H43 =>
opW (cvInt .i64 t32 H43) fun t33 H45 =>
opP (offPtr 2 t4) fun t34 =>
opW (storeTo 1 t34 t33 H45) fun u_5 H48 =>
J [t0, t2, t4] H48) (
opP ((binC P .eql 3 true).f t12 (.int .i64 3)) fun t36 =>
wIf t36 (
wCall P n_code_Reader_Fixed [t0, (.int .i64 1)] H14 fun t38 H51 =>
opW (cvInt .i64 t38 H51) fun t39 H53 =>
opP ((binC P .add 3 true).f t39 (.int .i64 (-1))) fun t40 =>
opP (offPtr 2 t4) fun t41 =>
opW (storeTo 1 t41 t40 H53) fun u_6 H57 =>
J [t0, t2, t4] H57) (
opP ((binC P .eql 3 true).f t12 (.int .i64 4)) fun t43 =>
wIf t43 (
wCall P n_code_Reader_Fixed [t0, (.int .i64 8)] H14 fun t45 H60 =>
opP (offPtr 39 t4) fun t46 =>
opW (storeTo 1 t46 t45 H60) fun u_7 H63 =>
J [t0, t2, t4] H63) (
J [t0, t2, t4] H14))))) (fun l H65 =>
wJoin (fun J_1 =>
wCall P n_code_Reader_Err [(nth l 0)] H65 fun t48 H68 =>
opP ((binC P .neq 24 true).f t48 (.int .i64 0)) fun t49 =>
wIf t49 (
opP (pickA t49 (.bool true) undef) fun t54 =>
J_1 [(nth l 1), (nth l 2), t54] H68) (
opW (loadAgg 40 (nth l 2) H68) fun t51 H72 =>
wCall P n_table_right [t51] H72 fun t52 H74 =>
opP (unA .not t52) fun t53 =>
opP (pickA t49 (.bool true) t53) fun t54_1 =>
J_1 [(nth l 1), (nth l 2), t54_1] H74)) (fun l_1 H78 =>
wIf (nth l_1 2) (
opP ((buildC P 41).f []) fun t55 =>
opW (storeTo 40 (nth l_1 0) t55 H78) fun u_8 H81 =>
opW (loadAgg 40 (nth l_1 0) H81) fun r_1 _ =>
K (.tuple [r_1, (.int .i64 111)].toArray) H81) (
opW (loadAgg 40 (nth l_1 1) H78) fun t56 H84 =>
opW (storeTo 40 (nth l_1 0) t56 H84) fun u_9 H86 =>
opW (loadAgg 40 (nth l_1 0) H86) fun r_2 _ =>
K (.tuple [r_2, (.int .i64 0)].toArray) H86)))
theorem table_change_eq (t0 : Value) (H : Heap) (K : Value → Heap → Prop) : vcF P n_table_change [t0] H K = table_change t0 H K := by kernel_rfl
theorem table_change_ok {t0 : Value} {H : Heap} {K : Value → Heap → Prop} (h : table_change t0 H K) : wCall P n_table_change [t0] H K := wCall_of_vcF rfl ((table_change_eq t0 H K).mpr h)

/-! bootjack/code.Raw -/
def code_Raw (t0 t1 : Value) (H : Heap) (K : Value → Heap → Prop) : Prop :=
wCall P n_slices_Concat_byte_byte [t1] H fun t7 H1 =>
opW ((buildSliceC P 65 2).f [(0, t0), (1, t7)] H1) fun t8 H3 =>
wCall P n_slices_Concat_byte_byte [t8] H3 fun t9 H5 =>
K t9 H5
theorem code_Raw_eq (t0 t1 : Value) (H : Heap) (K : Value → Heap → Prop) : vcF P n_code_Raw [t0, t1] H K = code_Raw t0 t1 H K := by kernel_rfl
theorem code_Raw_ok {t0 t1 : Value} {H : Heap} {K : Value → Heap → Prop} (h : code_Raw t0 t1 H K) : wCall P n_code_Raw [t0, t1] H K := wCall_of_vcF rfl ((code_Raw_eq t0 t1 H K).mpr h)

/-! bootjack/slot.Bytes -/
def slot_Bytes (t0 : Value) (H : Heap) (K : Value → Heap → Prop) : Prop :=
wNew (cellsL t0) H fun t1 H1 =>
opW (loadAgg 36 t1 H1) fun t4 H3 =>
wCall P n_slot_Right [t4] H3 fun t5 H5 =>
opP (unA .not t5) fun t6 =>
wIf t6 (
K (.slice none 0 0) H5) (
opP (offPtr 0 t1) fun t7 =>
opW (loadOne t7 H5) fun t8 H9 =>
opW (cvInt .u64 t8 H9) fun t9 H11 =>
wCall P n_code_Fixed [(.slice none 0 0), t9, (.int .i64 1)] H11 fun t10 H13 =>
opP (offPtr 1 t1) fun t11 =>
opW (loadOne t11 H13) fun t12 H16 =>
cSame (sameB H11 H13) (idsOf [t11]) ∧ (opW (cvInt .u64 t12 H16) fun t13 H18 =>
wCall P n_code_Fixed [t10, t13, (.int .i64 1)] H18 fun t14 H20 =>
opP (offPtr 2 t1) fun t16 =>
opW (loadOne t16 H20) fun t17 H23 =>
wCall P n_code_Fixed [t14, t17, (.int .i64 8)] H23 fun t18 H25 =>
opP (offPtr 3 t1) fun t19 =>
opW (loadOne t19 H25) fun t20 H28 =>
cSame (sameB H23 H25) (idsOf [t19]) ∧ (opW (cvInt .u64 t20 H28) fun t21 H30 =>
wCall P n_code_Fixed [t18, t21, (.int .i64 4)] H30 fun t22 H32 =>
opP (offPtr 4 t1) fun t24 =>
opP (sliceArr 32 1 t24 none none none H32) fun t25 =>
opW ((buildSliceC P 65 1).f [(0, t25)] H32) fun t26 H36 =>
wCall P n_code_Raw [t22, t26] H36 fun t27 H38 =>
K t27 H38)))
theorem slot_Bytes_eq (t0 : Value) (H : Heap) (K : Value → Heap → Prop) : vcF P n_slot_Bytes [t0] H K = slot_Bytes t0 H K := by kernel_rfl
theorem slot_Bytes_ok {t0 : Value} {H : Heap} {K : Value → Heap → Prop} (h : slot_Bytes t0 H K) : wCall P n_slot_Bytes [t0] H K := wCall_of_vcF rfl ((slot_Bytes_eq t0 H K).mpr h)

/-! bootjack/code.Fixed -/
noncomputable abbrev code_Fixed_P0 : Code := loopAt P n_code_Fixed 0
/-- loop 0: goes on from the slots [1, 6, 7, 11, 12]; leaves [6, 7] -/
def code_Fixed_L0 (l : List Value) (H : Heap) (N : List Value → Heap → Prop) (Qx : Nat → List Value → Heap → Prop) (Qr : List Value → Heap → Prop) : Prop :=
opP ((binC P .lss 3 false).f (nth l 4) (nth l 3)) fun t13 =>
wIf t13 (
opW (cvInt .u8 (nth l 0) H) fun t16 H2 =>
opW ((buildSliceC P 46 1).f [(0, t16)] H2) fun t17 H4 =>
opW (appendWith 1 1 (nth l 2) t17 H4) fun t18 H6 =>
opP ((binC P .shr 30 true).f (nth l 0) (.int .u64 8)) fun t20 =>
opP ((binC P .add 3 true).f (nth l 4) (.int .i64 1)) fun t21 =>
N [t20, (nth l 1), t18, (nth l 3), t21] H6) (
Qx 0 [(nth l 1), (nth l 2)] H)
theorem code_Fixed_L0_eq (l : List Value) (H : Heap) (N : List Value → Heap → Prop) (Qx : Nat → List Value → Heap → Prop) (Qr : List Value → Heap → Prop) : vcC P true 23 code_Fixed_P0 (live code_Fixed_P0 0 192) 192 (envOf (bits 23 (live code_Fixed_P0 0 192)) l) H (loopQ 23 code_Fixed_P0 192 N Qx Qr) = code_Fixed_L0 l H N Qx Qr := by kernel_rfl
theorem code_Fixed_L0_ind (I : Nat → List Value → Heap → Prop) (Qx : Nat → List Value → Heap → Prop) (Qr : List Value → Heap → Prop) (hs : ∀ k l H, I k l H → code_Fixed_L0 l H (fun l H => ∃ k', k' < k ∧ I k' l H) Qx Qr) (k : Nat) (l : List Value) (H : Heap) (h : I k l H) : wLoop P true 23 code_Fixed_P0 192 l H Qx Qr :=
  loop_ind (by kernel_rfl) I (fun k l H h => (code_Fixed_L0_eq l H _ Qx Qr).mpr (hs k l H h)) k l H h
def code_Fixed (t0 t1 t2 : Value) (H : Heap) (K : Value → Heap → Prop) : Prop :=
wCall P n_slices_Clone_byte_byte [t0] H fun t9 H1 =>
wCall P n_code_within [t2] H1 fun t11 H3 =>
wLoop P true 23 code_Fixed_P0 192 [t1, (.slice none 0 0), t9, t11, (.int .i64 0)] H3 (fun id l H5 =>
cond (Nat.beq id 0) (
K (nth l 1) H5) (
False)) (fun l H5 =>
K (nth l 0) H5)
theorem code_Fixed_eq (t0 t1 t2 : Value) (H : Heap) (K : Value → Heap → Prop) : vcF P n_code_Fixed [t0, t1, t2] H K = code_Fixed t0 t1 t2 H K := by kernel_rfl
theorem code_Fixed_ok {t0 t1 t2 : Value} {H : Heap} {K : Value → Heap → Prop} (h : code_Fixed t0 t1 t2 H K) : wCall P n_code_Fixed [t0, t1, t2] H K := wCall_of_vcF rfl ((code_Fixed_eq t0 t1 t2 H K).mpr h)

/-! bootjack/bootjackref11.All -/
noncomputable abbrev ref11_All_P0 : Code := loopAt P n_ref11_All 0
/-- loop 0: goes on from the slots [0, 2, 5, 6, 7]; leaves [0, 2] -/
def ref11_All_L0 (l : List Value) (H : Heap) (N : List Value → Heap → Prop) (Qx : Nat → List Value → Heap → Prop) (Qr : List Value → Heap → Prop) : Prop :=
opP ((binC P .lss 3 false).f (nth l 4) (nth l 3)) fun t8 =>
wIf t8 (
opP (idxSl 40 (nth l 2) (nth l 4)) fun t9 =>
opW (loadAgg 40 t9 H) fun t10 H3 =>
wNew (zc P 41) H3 fun t4 H5 =>
opW (storeTo 40 t4 t10 H5) fun u H7 =>
opW (loadAgg 40 t4 H7) fun t11 H9 =>
wCall P n_ref11_One [t11] H9 fun t12 H11 =>
opP (unA .not t12) fun t13 =>
wIf t13 (
Qr [(nth l 0), (.bool false)] H11) (
opP ((binC P .add 3 true).f (nth l 4) (.int .i64 1)) fun t14 =>
N [(nth l 0), (nth l 1), (nth l 2), (nth l 3), t14] H11)) (
Qx 0 [(nth l 0), (nth l 1)] H)
theorem ref11_All_L0_eq (l : List Value) (H : Heap) (N : List Value → Heap → Prop) (Qx : Nat → List Value → Heap → Prop) (Qr : List Value → Heap → Prop) : vcC P true 18 ref11_All_P0 (live ref11_All_P0 0 5) 5 (envOf (bits 18 (live ref11_All_P0 0 5)) l) H (loopQ 18 ref11_All_P0 5 N Qx Qr) = ref11_All_L0 l H N Qx Qr := by kernel_rfl
theorem ref11_All_L0_ind (I : Nat → List Value → Heap → Prop) (Qx : Nat → List Value → Heap → Prop) (Qr : List Value → Heap → Prop) (hs : ∀ k l H, I k l H → ref11_All_L0 l H (fun l H => ∃ k', k' < k ∧ I k' l H) Qx Qr) (k : Nat) (l : List Value) (H : Heap) (h : I k l H) : wLoop P true 18 ref11_All_P0 5 l H Qx Qr :=
  loop_ind (by kernel_rfl) I (fun k l H h => (ref11_All_L0_eq l H _ Qx Qr).mpr (hs k l H h)) k l H h
def ref11_All (t0 : Value) (H : Heap) (K : Value → Heap → Prop) : Prop :=
opW (lenSl t0 H) fun t6 H1 =>
wLoop P true 18 ref11_All_P0 5 [t0, (.bool false), t0, t6, (.int .i64 0)] H1 (fun id l H3 =>
cond (Nat.beq id 0) (
opW (lenSl (nth l 0) H3) fun t16 H5 =>
opP ((binC P .leq 3 true).f t16 (.int .i64 8)) fun t17 =>
K t17 H5) (
False)) (fun l H3 =>
K (nth l 1) H3)
theorem ref11_All_eq (t0 : Value) (H : Heap) (K : Value → Heap → Prop) : vcF P n_ref11_All [t0] H K = ref11_All t0 H K := by kernel_rfl
theorem ref11_All_ok {t0 : Value} {H : Heap} {K : Value → Heap → Prop} (h : ref11_All t0 H K) : wCall P n_ref11_All [t0] H K := wCall_of_vcF rfl ((ref11_All_eq t0 H K).mpr h)

/-! bootjack/slot.Right -/
def slot_Right (t0 : Value) (H : Heap) (K : Value → Heap → Prop) : Prop :=
wNew (cellsL t0) H fun t1 H1 =>
wJoin (fun J =>
opP (offPtr 0 t1) fun t3 =>
opW (loadOne t3 H1) fun t4 H5 =>
wJoin (fun J_1 =>
opP ((binC P .eql 3 true).f t4 (.int .i64 0)) fun t6 =>
wIf t6 (
J_1 [t1, t4, t6] H5) (
opP ((binC P .eql 3 true).f t4 (.int .i64 1)) fun t7 =>
wIf t7 (
J_1 [t1, t4, t7] H5) (
opP ((binC P .eql 3 true).f t4 (.int .i64 4)) fun t8 =>
J_1 [t1, t4, t8] H5))) (fun l H11 =>
wIf (nth l 2) (
opW (loadAgg 36 (nth l 0) H11) fun t9 H13 =>
opP (offPtr 0 (nth l 0)) fun t10 =>
opW (loadOne t10 H13) fun t11 H16 =>
opP ((buildC P 34).f [(0, t11)]) fun t12 =>
opP ((binC P .eql 34 false).f t9 t12) fun t13 =>
K t13 H16) (
opP ((binC P .eql 3 true).f (nth l 1) (.int .i64 2)) fun t15 =>
wIf t15 (
opP (offPtr 1 (nth l 0)) fun t16 =>
opW (loadOne t16 H11) fun t17 H22 =>
opP ((binC P .lss 3 true).f t17 (.int .i64 0)) fun t18 =>
wIf t18 (
opP (pickA t18 (.bool true) undef) fun t23 =>
wIf t23 (
K (.bool false) H22) (
J [(nth l 0)] H22)) (
opP (offPtr 1 (nth l 0)) fun t20 =>
opW (loadOne t20 H22) fun t21 H27 =>
opP ((binC P .gtr 3 true).f t21 (.int .i64 7)) fun t22 =>
opP (pickA t18 (.bool true) t22) fun t23_1 =>
wIf t23_1 (
K (.bool false) H27) (
J [(nth l 0)] H27))) (
opP ((binC P .eql 3 true).f (nth l 1) (.int .i64 3)) fun t25 =>
wIf t25 (
opP (offPtr 1 (nth l 0)) fun t26 =>
opW (loadOne t26 H11) fun t27 H33 =>
opP ((binC P .neq 3 true).f t27 (.int .i64 0)) fun t28 =>
wIf t28 (
K (.bool false) H33) (
J [(nth l 0)] H33)) (
K (.bool false) H11))))) (fun l_1 H36 =>
opP (offPtr 2 (nth l_1 0)) fun t29 =>
opW (loadOne t29 H36) fun t30 H39 =>
opP ((binC P .geq 30 true).f t30 (.int .u64 1)) fun t31 =>
wIf t31 (
opP (offPtr 2 (nth l_1 0)) fun t33 =>
opW (loadOne t33 H39) fun t34 H43 =>
opP ((binC P .leq 30 true).f t34 (.int .u64 281474976710656)) fun t35 =>
opP (pickA t31 t35 (.bool false)) fun t36 =>
wIf t36 (
opP (offPtr 3 (nth l_1 0)) fun t38 =>
opW (loadOne t38 H43) fun t39 H48 =>
opP ((binC P .geq 3 true).f t39 (.int .i64 1)) fun t40 =>
opP (pickA t36 t40 (.bool false)) fun t41 =>
wIf t41 (
opP (offPtr 3 (nth l_1 0)) fun t43 =>
opW (loadOne t43 H48) fun t44 H53 =>
opP ((binC P .leq 3 true).f t44 (.int .i64 65536)) fun t45 =>
opP (pickA t41 t45 (.bool false)) fun t46 =>
K t46 H53) (
opP (pickA t41 undef (.bool false)) fun t46_1 =>
K t46_1 H48)) (
opP (pickA t36 undef (.bool false)) fun t41_1 =>
opP (pickA t41_1 undef (.bool false)) fun t46_2 =>
K t46_2 H43)) (
opP (pickA t31 undef (.bool false)) fun t36_1 =>
opP (pickA t36_1 undef (.bool false)) fun t41_2 =>
opP (pickA t41_2 undef (.bool false)) fun t46_3 =>
K t46_3 H39))
theorem slot_Right_eq (t0 : Value) (H : Heap) (K : Value → Heap → Prop) : vcF P n_slot_Right [t0] H K = slot_Right t0 H K := by kernel_rfl
theorem slot_Right_ok {t0 : Value} {H : Heap} {K : Value → Heap → Prop} (h : slot_Right t0 H K) : wCall P n_slot_Right [t0] H K := wCall_of_vcF rfl ((slot_Right_eq t0 H K).mpr h)

/-! bootjack/table.index -/
def table_index (t0 : Value) (H : Heap) (K : Value → Heap → Prop) : Prop :=
opP ((binC P .eql 3 true).f t0 (.int .i64 0)) fun t4 =>
wIf t4 (
opP (pickA t4 (.bool true) undef) fun t8 =>
K t8 H) (
opP ((binC P .eql 3 true).f t0 (.int .i64 1)) fun t7 =>
opP (pickA t4 (.bool true) t7) fun t8_1 =>
K t8_1 H)
theorem table_index_eq (t0 : Value) (H : Heap) (K : Value → Heap → Prop) : vcF P n_table_index [t0] H K = table_index t0 H K := by kernel_rfl
theorem table_index_ok {t0 : Value} {H : Heap} {K : Value → Heap → Prop} (h : table_index t0 H K) : wCall P n_table_index [t0] H K := wCall_of_vcF rfl ((table_index_eq t0 H K).mpr h)

/-! bootjack/bootjackref10.Bytes -/
def ref10_Bytes (t0 : Value) (H : Heap) (K : Value → Heap → Prop) : Prop :=
wNew (cellsL t0) H fun t1 H1 =>
opW ((buildSliceC P 46 0).f [] H1) fun t4 H3 =>
opW (loadAgg 36 t1 H3) fun t5 H5 =>
wCall P n_ref10_Right [t5] H5 fun t6 H7 =>
opP (unA .not t6) fun t7 =>
wIf t7 (
K t4 H7) (
opP (offPtr 0 t1) fun t10 =>
opW (loadOne t10 H7) fun t11 H11 =>
opW (cvInt .u8 t11 H11) fun t12 H13 =>
opP (offPtr 1 t1) fun t13 =>
opW (loadOne t13 H13) fun t14 H16 =>
opW (cvInt .u8 t14 H16) fun t15 H18 =>
opW ((buildSliceC P 46 2).f [(0, t12), (1, t15)] H18) fun t16 H20 =>
opW (appendWith 1 1 t4 t16 H20) fun t17 H22 =>
opP (offPtr 2 t1) fun t19 =>
opW (loadOne t19 H22) fun t20 H25 =>
wCall P n_ref05_Fixed [t20, (.int .i64 8)] H25 fun t21 H27 =>
opW (appendWith 1 1 t17 t21 H27) fun t22 H29 =>
opP (offPtr 3 t1) fun t24 =>
opW (loadOne t24 H29) fun t25 H32 =>
opW (cvInt .u64 t25 H32) fun t26 H34 =>
wCall P n_ref05_Fixed [t26, (.int .i64 4)] H34 fun t27 H36 =>
opW (appendWith 1 1 t22 t27 H36) fun t28 H38 =>
opP (offPtr 4 t1) fun t30 =>
opP (sliceArr 32 1 t30 none none none H38) fun t31 =>
opW (appendWith 1 1 t28 t31 H38) fun t32 H42 =>
K t32 H42)
theorem ref10_Bytes_eq (t0 : Value) (H : Heap) (K : Value → Heap → Prop) : vcF P n_ref10_Bytes [t0] H K = ref10_Bytes t0 H K := by kernel_rfl
theorem ref10_Bytes_ok {t0 : Value} {H : Heap} {K : Value → Heap → Prop} (h : ref10_Bytes t0 H K) : wCall P n_ref10_Bytes [t0] H K := wCall_of_vcF rfl ((ref10_Bytes_eq t0 H K).mpr h)

/-! bootjack/bootjackref05.Fixed -/
noncomputable abbrev ref05_Fixed_P0 : Code := loopAt P n_ref05_Fixed 0
/-- loop 0: goes on from the slots [0, 1, 4, 5, 6]; leaves [4, 5] -/
def ref05_Fixed_L0 (l : List Value) (H : Heap) (N : List Value → Heap → Prop) (Qx : Nat → List Value → Heap → Prop) (Qr : List Value → Heap → Prop) : Prop :=
wCall P n_ref05_size [(nth l 1)] H fun t10 H1 =>
opP ((binC P .lss 3 false).f (nth l 4) t10) fun t11 =>
wIf t11 (
opP ((binC P .rem 30 true).f (nth l 0) (.int .u64 256)) fun t16 =>
opW (cvInt .u8 t16 H1) fun t17 H5 =>
opW ((buildSliceC P 46 1).f [(0, t17)] H5) fun t18 H7 =>
opW (appendWith 1 1 (nth l 3) t18 H7) fun t19 H9 =>
opP ((binC P .quo 30 true).f (nth l 0) (.int .u64 256)) fun t21 =>
opP ((binC P .add 3 true).f (nth l 4) (.int .i64 1)) fun t13 =>
N [t21, (nth l 1), (nth l 2), t19, t13] H9) (
Qx 0 [(nth l 2), (nth l 3)] H1)
theorem ref05_Fixed_L0_eq (l : List Value) (H : Heap) (N : List Value → Heap → Prop) (Qx : Nat → List Value → Heap → Prop) (Qr : List Value → Heap → Prop) : vcC P true 23 ref05_Fixed_P0 (live ref05_Fixed_P0 0 48) 48 (envOf (bits 23 (live ref05_Fixed_P0 0 48)) l) H (loopQ 23 ref05_Fixed_P0 48 N Qx Qr) = ref05_Fixed_L0 l H N Qx Qr := by kernel_rfl
theorem ref05_Fixed_L0_ind (I : Nat → List Value → Heap → Prop) (Qx : Nat → List Value → Heap → Prop) (Qr : List Value → Heap → Prop) (hs : ∀ k l H, I k l H → ref05_Fixed_L0 l H (fun l H => ∃ k', k' < k ∧ I k' l H) Qx Qr) (k : Nat) (l : List Value) (H : Heap) (h : I k l H) : wLoop P true 23 ref05_Fixed_P0 48 l H Qx Qr :=
  loop_ind (by kernel_rfl) I (fun k l H h => (ref05_Fixed_L0_eq l H _ Qx Qr).mpr (hs k l H h)) k l H h
def ref05_Fixed (t0 t1 : Value) (H : Heap) (K : Value → Heap → Prop) : Prop :=
opW ((buildSliceC P 46 0).f [] H) fun t7 H1 =>
wLoop P true 23 ref05_Fixed_P0 48 [t0, t1, (.slice none 0 0), t7, (.int .i64 0)] H1 (fun id l H3 =>
cond (Nat.beq id 0) (
K (nth l 1) H3) (
False)) (fun l H3 =>
K (nth l 0) H3)
theorem ref05_Fixed_eq (t0 t1 : Value) (H : Heap) (K : Value → Heap → Prop) : vcF P n_ref05_Fixed [t0, t1] H K = ref05_Fixed t0 t1 H K := by kernel_rfl
theorem ref05_Fixed_ok {t0 t1 : Value} {H : Heap} {K : Value → Heap → Prop} (h : ref05_Fixed t0 t1 H K) : wCall P n_ref05_Fixed [t0, t1] H K := wCall_of_vcF rfl ((ref05_Fixed_eq t0 t1 H K).mpr h)

/-! bootjack/bootjackref10.Read -/
noncomputable abbrev ref10_Read_P0 : Code := loopAt P n_ref10_Read 0
noncomputable abbrev ref10_Read_P1 : Code := loopAt P n_ref10_Read 1
/-- loop 0: goes on from the slots [2, 3, 4, 5, 6, 7]; leaves [2, 3, 4, 5] -/
def ref10_Read_L0 (l : List Value) (H : Heap) (N : List Value → Heap → Prop) (Qx : Nat → List Value → Heap → Prop) (Qr : List Value → Heap → Prop) : Prop :=
opP ((binC P .lss 3 true).f (nth l 5) (.int .i64 8)) fun t31 =>
wIf t31 (
opP (offPtr 2 (nth l 3)) fun t34 =>
opW (loadOne t34 H) fun t35 H3 =>
opP ((binC P .add 3 true).f (.int .i64 2) (nth l 5)) fun t39 =>
opP (idxSl 1 (nth l 2) t39) fun t40 =>
opW (loadOne t40 H3) fun t41 H7 =>
opW (cvInt .u64 t41 H7) fun t42 H9 =>
opP ((binC P .mul 30 false).f (nth l 4) t42) fun t43 =>
opP ((binC P .add 30 false).f t35 t43) fun t44 =>
opP (offPtr 2 (nth l 3)) fun t45 =>
opW (storeTo 1 t45 t44 H9) fun u H14 =>
opP ((binC P .mul 30 true).f (nth l 4) (.int .u64 256)) fun t47 =>
opP ((binC P .add 3 true).f (nth l 5) (.int .i64 1)) fun t33 =>
N [(nth l 0), (nth l 1), (nth l 2), (nth l 3), t47, t33] H14) (
Qx 0 [(nth l 0), (nth l 1), (nth l 2), (nth l 3)] H)
theorem ref10_Read_L0_eq (l : List Value) (H : Heap) (N : List Value → Heap → Prop) (Qx : Nat → List Value → Heap → Prop) (Qr : List Value → Heap → Prop) : vcC P true 88 ref10_Read_P0 (live ref10_Read_P0 0 60) 60 (envOf (bits 88 (live ref10_Read_P0 0 60)) l) H (loopQ 88 ref10_Read_P0 60 N Qx Qr) = ref10_Read_L0 l H N Qx Qr := by kernel_rfl
theorem ref10_Read_L0_ind (I : Nat → List Value → Heap → Prop) (Qx : Nat → List Value → Heap → Prop) (Qr : List Value → Heap → Prop) (hs : ∀ k l H, I k l H → ref10_Read_L0 l H (fun l H => ∃ k', k' < k ∧ I k' l H) Qx Qr) (k : Nat) (l : List Value) (H : Heap) (h : I k l H) : wLoop P true 88 ref10_Read_P0 60 l H Qx Qr :=
  loop_ind (by kernel_rfl) I (fun k l H h => (ref10_Read_L0_eq l H _ Qx Qr).mpr (hs k l H h)) k l H h

/-- loop 1: goes on from the slots [2, 3, 4, 5, 71]; leaves [2, 3, 5] -/
def ref10_Read_L1 (l : List Value) (H : Heap) (N : List Value → Heap → Prop) (Qx : Nat → List Value → Heap → Prop) (Qr : List Value → Heap → Prop) : Prop :=
opP ((binC P .lss 3 true).f (nth l 4) (.int .i64 32)) fun t72 =>
wIf t72 (
opP ((binC P .add 3 true).f (.int .i64 14) (nth l 4)) fun t77 =>
opP (idxSl 1 (nth l 2) t77) fun t78 =>
opW (loadOne t78 H) fun t79 H4 =>
opP (offPtr 4 (nth l 3)) fun t80 =>
opP (idxPtr 32 1 t80 (nth l 4)) fun t81 =>
opW (storeTo 1 t81 t79 H4) fun u H8 =>
opP ((binC P .add 3 true).f (nth l 4) (.int .i64 1)) fun t82 =>
N [(nth l 0), (nth l 1), (nth l 2), (nth l 3), t82] H8) (
Qx 2 [(nth l 0), (nth l 1), (nth l 3)] H)
theorem ref10_Read_L1_eq (l : List Value) (H : Heap) (N : List Value → Heap → Prop) (Qx : Nat → List Value → Heap → Prop) (Qr : List Value → Heap → Prop) : vcC P true 88 ref10_Read_P1 (live ref10_Read_P1 0 44) 44 (envOf (bits 88 (live ref10_Read_P1 0 44)) l) H (loopQ 88 ref10_Read_P1 44 N Qx Qr) = ref10_Read_L1 l H N Qx Qr := by kernel_rfl
theorem ref10_Read_L1_ind (I : Nat → List Value → Heap → Prop) (Qx : Nat → List Value → Heap → Prop) (Qr : List Value → Heap → Prop) (hs : ∀ k l H, I k l H → ref10_Read_L1 l H (fun l H => ∃ k', k' < k ∧ I k' l H) Qx Qr) (k : Nat) (l : List Value) (H : Heap) (h : I k l H) : wLoop P true 88 ref10_Read_P1 44 l H Qx Qr :=
  loop_ind (by kernel_rfl) I (fun k l H h => (ref10_Read_L1_eq l H _ Qx Qr).mpr (hs k l H h)) k l H h
def ref10_Read (t0 : Value) (H : Heap) (K : Value → Heap → Prop) : Prop :=
wNew (zc P 34) H fun t2 H1 =>
wCall P n_ref05_Raw [t0, (.int .i64 46)] H1 fun t10 H3 =>
opP (nilCheckA t0) fun t12 =>
opP (offPtr 1 t12) fun t13 =>
opW (loadOne t13 H3) fun t14 H7 =>
opP ((binC P .neq 3 true).f t14 (.int .i64 0)) fun t15 =>
wIf t15 (
opP ((buildC P 34).f []) fun t16 =>
opP (nilCheckA t0) fun t18 =>
opP (offPtr 1 t18) fun t19 =>
opW (loadOne t19 H7) fun t20 H13 =>
opW (storeTo 36 t2 t16 H13) fun u H15 =>
cApart (idsOf [t19]) (idsOf [t2, t16]) ∧ (opW (loadAgg 36 t2 H15) fun r _ =>
K (.tuple [r, t20].toArray) H15)) (
opP (idxSl 1 t10 (.int .i64 0)) fun t22 =>
opW (loadOne t22 H7) fun t23 H19 =>
opW (cvInt .i64 t23 H19) fun t24 H21 =>
opP (idxSl 1 t10 (.int .i64 1)) fun t26 =>
opW (loadOne t26 H21) fun t27 H24 =>
opW (cvInt .i64 t27 H24) fun t28 H26 =>
opP ((buildC P 34).f [(0, t24), (1, t28)]) fun t29 =>
wNew (zc P 34) H26 fun t5 H29 =>
opW (storeTo 36 t5 t29 H29) fun u_1 H31 =>
wLoop P true 88 ref10_Read_P0 60 [t2, (.int .i64 0), t10, t5, (.int .u64 1), (.int .i64 0)] H31 (fun id l H33 =>
cond (Nat.beq id 0) (
opP (idxSl 1 (nth l 2) (.int .i64 10)) fun t49 =>
opW (loadOne t49 H33) fun t50 H36 =>
opW (cvInt .i64 t50 H36) fun t51 H38 =>
opP (idxSl 1 (nth l 2) (.int .i64 11)) fun t53 =>
opW (loadOne t53 H38) fun t54 H41 =>
opW (cvInt .i64 t54 H41) fun t55 H43 =>
opP ((binC P .mul 3 true).f (.int .i64 256) t55) fun t56 =>
opP ((binC P .add 3 false).f t51 t56) fun t57 =>
opP (idxSl 1 (nth l 2) (.int .i64 12)) fun t59 =>
opW (loadOne t59 H43) fun t60 H48 =>
opW (cvInt .i64 t60 H48) fun t61 H50 =>
opP ((binC P .mul 3 true).f (.int .i64 65536) t61) fun t62 =>
opP ((binC P .add 3 false).f t57 t62) fun t63 =>
opP (idxSl 1 (nth l 2) (.int .i64 13)) fun t65 =>
opW (loadOne t65 H50) fun t66 H55 =>
opW (cvInt .i64 t66 H55) fun t67 H57 =>
opP ((binC P .mul 3 true).f (.int .i64 16777216) t67) fun t68 =>
opP ((binC P .add 3 false).f t63 t68) fun t69 =>
opP (offPtr 3 (nth l 3)) fun t70 =>
opW (storeTo 1 t70 t69 H57) fun u_2 H62 =>
wLoop P true 88 ref10_Read_P1 44 [(nth l 0), (nth l 1), (nth l 2), (nth l 3), (.int .i64 0)] H62 (fun id l_1 H64 =>
cond (Nat.beq id 2) (
opW (loadAgg 36 (nth l_1 2) H64) fun t83 H66 =>
wCall P n_ref10_Right [t83] H66 fun t84 H68 =>
opP (unA .not t84) fun t85 =>
wIf t85 (
opP ((buildC P 34).f []) fun t86 =>
opW (storeTo 36 (nth l_1 0) t86 H68) fun u_3 H72 =>
opW (loadAgg 36 (nth l_1 0) H72) fun r_1 _ =>
K (.tuple [r_1, (.int .i64 101)].toArray) H72) (
opW (loadAgg 36 (nth l_1 2) H68) fun t87 H75 =>
opW (storeTo 36 (nth l_1 0) t87 H75) fun u_4 H77 =>
opW (loadAgg 36 (nth l_1 0) H77) fun r_2 _ =>
K (.tuple [r_2, (.int .i64 0)].toArray) H77)) (
False)) (fun l_1 H64 =>
opW (loadAgg 36 (nth l_1 0) H64) fun r_3 _ =>
K (.tuple [r_3, (nth l_1 1)].toArray) H64)) (
False)) (fun l H33 =>
opW (loadAgg 36 (nth l 0) H33) fun r_4 _ =>
K (.tuple [r_4, (nth l 1)].toArray) H33))
theorem ref10_Read_eq (t0 : Value) (H : Heap) (K : Value → Heap → Prop) : vcF P n_ref10_Read [t0] H K = ref10_Read t0 H K := by kernel_rfl
theorem ref10_Read_ok {t0 : Value} {H : Heap} {K : Value → Heap → Prop} (h : ref10_Read t0 H K) : wCall P n_ref10_Read [t0] H K := wCall_of_vcF rfl ((ref10_Read_eq t0 H K).mpr h)

/-! bootjack/bootjackref11.number -/
noncomputable abbrev ref11_number_P0 : Code := loopAt P n_ref11_number 0
/-- loop 0: goes on from the slots [2, 3, 4, 7, 8, 9]; leaves [2, 3] -/
def ref11_number_L0 (l : List Value) (H : Heap) (N : List Value → Heap → Prop) (Qx : Nat → List Value → Heap → Prop) (Qr : List Value → Heap → Prop) : Prop :=
opP ((binC P .lss 3 false).f (nth l 5) (nth l 4)) fun t10 =>
wIf t10 (
opP (idxSl 1 (nth l 3) (nth l 5)) fun t11 =>
opW (loadOne t11 H) fun t12 H3 =>
opW (cvInt .u64 t12 H3) fun t16 H5 =>
opP ((binC P .mul 30 false).f (nth l 2) t16) fun t17 =>
opP ((binC P .add 30 false).f (nth l 1) t17) fun t18 =>
opP ((binC P .mul 30 true).f (nth l 2) (.int .u64 256)) fun t20 =>
opP ((binC P .add 3 true).f (nth l 5) (.int .i64 1)) fun t21 =>
N [(nth l 0), t18, t20, (nth l 3), (nth l 4), t21] H5) (
Qx 0 [(nth l 0), (nth l 1)] H)
theorem ref11_number_L0_eq (l : List Value) (H : Heap) (N : List Value → Heap → Prop) (Qx : Nat → List Value → Heap → Prop) (Qr : List Value → Heap → Prop) : vcC P true 23 ref11_number_P0 (live ref11_number_P0 0 12) 12 (envOf (bits 23 (live ref11_number_P0 0 12)) l) H (loopQ 23 ref11_number_P0 12 N Qx Qr) = ref11_number_L0 l H N Qx Qr := by kernel_rfl
theorem ref11_number_L0_ind (I : Nat → List Value → Heap → Prop) (Qx : Nat → List Value → Heap → Prop) (Qr : List Value → Heap → Prop) (hs : ∀ k l H, I k l H → ref11_number_L0 l H (fun l H => ∃ k', k' < k ∧ I k' l H) Qx Qr) (k : Nat) (l : List Value) (H : Heap) (h : I k l H) : wLoop P true 23 ref11_number_P0 12 l H Qx Qr :=
  loop_ind (by kernel_rfl) I (fun k l H h => (ref11_number_L0_eq l H _ Qx Qr).mpr (hs k l H h)) k l H h
def ref11_number (t0 : Value) (H : Heap) (K : Value → Heap → Prop) : Prop :=
opW (lenSl t0 H) fun t8 H1 =>
wLoop P true 23 ref11_number_P0 12 [(.int .u64 0), (.int .u64 0), (.int .u64 1), t0, t8, (.int .i64 0)] H1 (fun id l H3 =>
cond (Nat.beq id 0) (
K (nth l 1) H3) (
False)) (fun l H3 =>
K (nth l 0) H3)
theorem ref11_number_eq (t0 : Value) (H : Heap) (K : Value → Heap → Prop) : vcF P n_ref11_number [t0] H K = ref11_number t0 H K := by kernel_rfl
theorem ref11_number_ok {t0 : Value} {H : Heap} {K : Value → Heap → Prop} (h : ref11_number t0 H K) : wCall P n_ref11_number [t0] H K := wCall_of_vcF rfl ((ref11_number_eq t0 H K).mpr h)

/-! bootjack/bootjackref05.FixedOf -/
noncomputable abbrev ref05_FixedOf_P0 : Code := loopAt P n_ref05_FixedOf 0
/-- loop 0: goes on from the slots [4, 5, 6, 12, 13, 14]; leaves [4, 5] -/
def ref05_FixedOf_L0 (l : List Value) (H : Heap) (N : List Value → Heap → Prop) (Qx : Nat → List Value → Heap → Prop) (Qr : List Value → Heap → Prop) : Prop :=
opP ((binC P .lss 3 false).f (nth l 5) (nth l 4)) fun t15 =>
wIf t15 (
opP (idxSl 1 (nth l 3) (nth l 5)) fun t16 =>
opW (loadOne t16 H) fun t17 H3 =>
opW (cvInt .u64 t17 H3) fun t20 H5 =>
opP ((binC P .mul 30 false).f t20 (nth l 2)) fun t22 =>
opP ((binC P .add 30 false).f (nth l 1) t22) fun t23 =>
opP ((binC P .mul 30 true).f (nth l 2) (.int .u64 256)) fun t25 =>
opP ((binC P .add 3 true).f (nth l 5) (.int .i64 1)) fun t26 =>
N [(nth l 0), t23, t25, (nth l 3), (nth l 4), t26] H5) (
Qx 0 [(nth l 0), (nth l 1)] H)
theorem ref05_FixedOf_L0_eq (l : List Value) (H : Heap) (N : List Value → Heap → Prop) (Qx : Nat → List Value → Heap → Prop) (Qr : List Value → Heap → Prop) : vcC P true 28 ref05_FixedOf_P0 (live ref05_FixedOf_P0 0 48) 48 (envOf (bits 28 (live ref05_FixedOf_P0 0 48)) l) H (loopQ 28 ref05_FixedOf_P0 48 N Qx Qr) = ref05_FixedOf_L0 l H N Qx Qr := by kernel_rfl
theorem ref05_FixedOf_L0_ind (I : Nat → List Value → Heap → Prop) (Qx : Nat → List Value → Heap → Prop) (Qr : List Value → Heap → Prop) (hs : ∀ k l H, I k l H → ref05_FixedOf_L0 l H (fun l H => ∃ k', k' < k ∧ I k' l H) Qx Qr) (k : Nat) (l : List Value) (H : Heap) (h : I k l H) : wLoop P true 28 ref05_FixedOf_P0 48 l H Qx Qr :=
  loop_ind (by kernel_rfl) I (fun k l H h => (ref05_FixedOf_L0_eq l H _ Qx Qr).mpr (hs k l H h)) k l H h
def ref05_FixedOf (t0 t1 : Value) (H : Heap) (K : Value → Heap → Prop) : Prop :=
wCall P n_ref05_size [t1] H fun t11 H1 =>
wCall P n_ref05_Raw [t0, t11] H1 fun t12 H3 =>
opW (lenSl t12 H3) fun t13 H5 =>
wLoop P true 28 ref05_FixedOf_P0 48 [(.int .u64 0), (.int .u64 0), (.int .u64 1), t12, t13, (.int .i64 0)] H5 (fun id l H7 =>
cond (Nat.beq id 0) (
K (nth l 1) H7) (
False)) (fun l H7 =>
K (nth l 0) H7)
theorem ref05_FixedOf_eq (t0 t1 : Value) (H : Heap) (K : Value → Heap → Prop) : vcF P n_ref05_FixedOf [t0, t1] H K = ref05_FixedOf t0 t1 H K := by kernel_rfl
theorem ref05_FixedOf_ok {t0 t1 : Value} {H : Heap} {K : Value → Heap → Prop} (h : ref05_FixedOf t0 t1 H K) : wCall P n_ref05_FixedOf [t0, t1] H K := wCall_of_vcF rfl ((ref05_FixedOf_eq t0 t1 H K).mpr h)

/-! bootjack/bootjackref05.End -/
def ref05_End (t0 : Value) (H : Heap) (K : Value → Heap → Prop) : Prop :=
opP (nilCheckA t0) fun t4 =>
opP (offPtr 1 t4) fun t5 =>
opW (loadOne t5 H) fun t6 H3 =>
opP ((binC P .eql 3 true).f t6 (.int .i64 0)) fun t7 =>
wIf t7 (
opP (nilCheckA t0) fun t10 =>
opP (offPtr 0 t10) fun t11 =>
opW (loadOne t11 H3) fun t12 H8 =>
opW (lenSl t12 H8) fun t13 H10 =>
opP ((binC P .gtr 3 true).f t13 (.int .i64 0)) fun t14 =>
opP (pickA t7 t14 (.bool false)) fun t15 =>
wIf t15 (
K (.int .i64 52) H10) (
opP (nilCheckA t0) fun t17 =>
opP (offPtr 1 t17) fun t18 =>
opW (loadOne t18 H10) fun t19 H16 =>
K t19 H16)) (
opP (pickA t7 undef (.bool false)) fun t15_1 =>
wIf t15_1 (
K (.int .i64 52) H3) (
opP (nilCheckA t0) fun t17_1 =>
opP (offPtr 1 t17_1) fun t18_1 =>
opW (loadOne t18_1 H3) fun t19_1 H21 =>
K t19_1 H21))
theorem ref05_End_eq (t0 : Value) (H : Heap) (K : Value → Heap → Prop) : vcF P n_ref05_End [t0] H K = ref05_End t0 H K := by kernel_rfl
theorem ref05_End_ok {t0 : Value} {H : Heap} {K : Value → Heap → Prop} (h : ref05_End t0 H K) : wCall P n_ref05_End [t0] H K := wCall_of_vcF rfl ((ref05_End_eq t0 H K).mpr h)

/-! bootjack/table.right -/
def table_right (t0 : Value) (H : Heap) (K : Value → Heap → Prop) : Prop :=
wNew (cellsL t0) H fun t1 H1 =>
opP (offPtr 0 t1) fun t5 =>
opW (loadOne t5 H1) fun t6 H4 =>
opP ((buildC P 41).f [(0, t6)]) fun t7 =>
wNew (zc P 41) H4 fun t3 H7 =>
opW (storeTo 40 t3 t7 H7) fun u H9 =>
wJoin (fun J =>
opP (offPtr 0 t1) fun t8 =>
opW (loadOne t8 H9) fun t9 H13 =>
opP ((binC P .eql 3 true).f t9 (.int .i64 1)) fun t11 =>
wIf t11 (
opP (offPtr 1 t1) fun t12 =>
opW (loadOne t12 H13) fun t13 H17 =>
opP (offPtr 3 t1) fun t14 =>
opW (loadAgg 36 t14 H17) fun t15 H20 =>
opP (offPtr 1 t3) fun t16 =>
opW (storeTo 1 t16 t13 H20) fun u_1 H23 =>
cApart (idsOf [t14]) (idsOf [t16, t13]) ∧ (opP (offPtr 3 t3) fun t17 =>
opW (storeTo 36 t17 t15 H23) fun u_2 H26 =>
opP (offPtr 1 t1) fun t18 =>
opW (loadOne t18 H26) fun t19 H29 =>
wCall P n_table_index [t19] H29 fun t20 H31 =>
wIf t20 (
opP (offPtr 3 t1) fun t22 =>
opW (loadAgg 36 t22 H31) fun t23 H34 =>
wCall P n_slot_Right [t23] H34 fun t24 H36 =>
opP (pickA t20 t24 (.bool false)) fun t25 =>
J [t1, t3, t25] H36) (
opP (pickA t20 undef (.bool false)) fun t25_1 =>
J [t1, t3, t25_1] H31))) (
opP ((binC P .eql 3 true).f t9 (.int .i64 2)) fun t27 =>
wIf t27 (
opP (offPtr 2 t1) fun t28 =>
opW (loadOne t28 H13) fun t29 H42 =>
opP (offPtr 2 t3) fun t30 =>
opW (storeTo 1 t30 t29 H42) fun u_3 H45 =>
opP (offPtr 2 t1) fun t31 =>
opW (loadOne t31 H45) fun t32 H48 =>
wCall P n_table_index [t32] H48 fun t33 H50 =>
J [t1, t3, t33] H50) (
opP ((binC P .eql 3 true).f t9 (.int .i64 3)) fun t35 =>
wIf t35 (
opP (offPtr 2 t1) fun t36 =>
opW (loadOne t36 H13) fun t37 H54 =>
opP (offPtr 2 t3) fun t38 =>
opW (storeTo 1 t38 t37 H54) fun u_4 H57 =>
opP (offPtr 2 t1) fun t39 =>
opW (loadOne t39 H57) fun t40 H60 =>
opP ((binC P .eql 3 true).f t40 (.int .i64 (-1))) fun t41 =>
wIf t41 (
opP (pickA t41 (.bool true) undef) fun t46 =>
J [t1, t3, t46] H60) (
opP (offPtr 2 t1) fun t43 =>
opW (loadOne t43 H60) fun t44 H65 =>
wCall P n_table_index [t44] H65 fun t45 H67 =>
opP (pickA t41 (.bool true) t45) fun t46_1 =>
J [t1, t3, t46_1] H67)) (
opP ((binC P .eql 3 true).f t9 (.int .i64 4)) fun t48 =>
wIf t48 (
opP (offPtr 39 t1) fun t49 =>
opW (loadOne t49 H13) fun t50 H72 =>
opP (offPtr 39 t3) fun t51 =>
opW (storeTo 1 t51 t50 H72) fun u_5 H75 =>
opP (offPtr 39 t1) fun t52 =>
opW (loadOne t52 H75) fun t53 H78 =>
opP ((binC P .leq 30 true).f t53 (.int .u64 281474976710656)) fun t54 =>
J [t1, t3, t54] H78) (
J [t1, t3, (.bool false)] H13))))) (fun l H81 =>
wIf (nth l 2) (
opW (loadAgg 40 (nth l 1) H81) fun t57 H83 =>
opW (loadAgg 40 (nth l 0) H83) fun t58 H85 =>
opP ((binC P .eql 41 false).f t57 t58) fun t59 =>
opP (pickA (nth l 2) t59 (.bool false)) fun t60 =>
K t60 H85) (
opP (pickA (nth l 2) undef (.bool false)) fun t60_1 =>
K t60_1 H81))
theorem table_right_eq (t0 : Value) (H : Heap) (K : Value → Heap → Prop) : vcF P n_table_right [t0] H K = table_right t0 H K := by kernel_rfl
theorem table_right_ok {t0 : Value} {H : Heap} {K : Value → Heap → Prop} (h : table_right t0 H K) : wCall P n_table_right [t0] H K := wCall_of_vcF rfl ((table_right_eq t0 H K).mpr h)

/-! (*bootjack/code.Reader).Raw -/
def code_Reader_Raw (t0 t1 : Value) (H : Heap) (K : Value → Heap → Prop) : Prop :=
wCall P n_code_Reader_take [t0, t1] H fun t7 H1 =>
wCall P n_slices_Clone_byte_byte [t7] H1 fun t8 H3 =>
K t8 H3
theorem code_Reader_Raw_eq (t0 t1 : Value) (H : Heap) (K : Value → Heap → Prop) : vcF P n_code_Reader_Raw [t0, t1] H K = code_Reader_Raw t0 t1 H K := by kernel_rfl
theorem code_Reader_Raw_ok {t0 t1 : Value} {H : Heap} {K : Value → Heap → Prop} (h : code_Reader_Raw t0 t1 H K) : wCall P n_code_Reader_Raw [t0, t1] H K := wCall_of_vcF rfl ((code_Reader_Raw_eq t0 t1 H K).mpr h)

/-! (*bootjack/code.Reader).Err -/
def code_Reader_Err (t0 : Value) (H : Heap) (K : Value → Heap → Prop) : Prop :=
opP (nilCheckA t0) fun t4 =>
opP (offPtr 1 t4) fun t5 =>
opW (loadOne t5 H) fun t6 H3 =>
K t6 H3
theorem code_Reader_Err_eq (t0 : Value) (H : Heap) (K : Value → Heap → Prop) : vcF P n_code_Reader_Err [t0] H K = code_Reader_Err t0 H K := by kernel_rfl
theorem code_Reader_Err_ok {t0 : Value} {H : Heap} {K : Value → Heap → Prop} (h : code_Reader_Err t0 H K) : wCall P n_code_Reader_Err [t0] H K := wCall_of_vcF rfl ((code_Reader_Err_eq t0 H K).mpr h)

/-! slices.Backward[[]byte,byte] -/
def slices_Backward_byte_byte (t0 : Value) (H : Heap) (K : Value → Heap → Prop) : Prop :=
wNew (cellsL t0) H fun t1 H1 =>
K (.func (.func n_slices_Backward_byte_byte_1) [].toArray [t1].toArray) H1
theorem slices_Backward_byte_byte_eq (t0 : Value) (H : Heap) (K : Value → Heap → Prop) : vcF P n_slices_Backward_byte_byte [t0] H K = slices_Backward_byte_byte t0 H K := by kernel_rfl
theorem slices_Backward_byte_byte_ok {t0 : Value} {H : Heap} {K : Value → Heap → Prop} (h : slices_Backward_byte_byte t0 H K) : wCall P n_slices_Backward_byte_byte [t0] H K := wCall_of_vcF rfl ((slices_Backward_byte_byte_eq t0 H K).mpr h)

/-! (*bootjack/code.Reader).take -/
def code_Reader_take (t0 t1 : Value) (H : Heap) (K : Value → Heap → Prop) : Prop :=
opW (withH H (maxA [t1, (.int .i64 0)])) fun t7 H1 =>
wJoin (fun J =>
opP (nilCheckA t0) fun t9 =>
opP (offPtr 1 t9) fun t10 =>
opW (loadOne t10 H1) fun t11 H6 =>
opP ((binC P .neq 24 true).f t11 (.int .i64 0)) fun t12 =>
wIf t12 (
opP (pickA t12 (.bool true) undef) fun t21 =>
J [t0, t7, t21] H6) (
opP (nilCheckA t0) fun t16 =>
opP (offPtr 0 t16) fun t17 =>
opW (loadOne t17 H6) fun t18 H12 =>
opW (lenSl t18 H12) fun t19 H14 =>
opP ((binC P .gtr 3 false).f t7 t19) fun t20 =>
opP (pickA t12 (.bool true) t20) fun t21_1 =>
J [t0, t7, t21_1] H14)) (fun l H18 =>
wIf (nth l 2) (
wCall P n_code_Reader_fail [(nth l 0), (.int .i64 51)] H18 fun t23 H20 =>
K (.slice none 0 0) H20) (
opP (nilCheckA (nth l 0)) fun t25 =>
opP (offPtr 0 t25) fun t26 =>
opW (loadOne t26 H18) fun t27 H24 =>
opP (sliceSl 1 t27 none (some (nth l 1)) none) fun t29 =>
opP (nilCheckA (nth l 0)) fun t32 =>
opP (offPtr 0 t32) fun t33 =>
opW (loadOne t33 H24) fun t34 H29 =>
opP (sliceSl 1 t34 (some (nth l 1)) none none) fun t36 =>
opP (nilCheckA (nth l 0)) fun t37 =>
opP (offPtr 0 t37) fun t38 =>
opW (storeTo 1 t38 t36 H29) fun u H34 =>
K t29 H34))
theorem code_Reader_take_eq (t0 t1 : Value) (H : Heap) (K : Value → Heap → Prop) : vcF P n_code_Reader_take [t0, t1] H K = code_Reader_take t0 t1 H K := by kernel_rfl
theorem code_Reader_take_ok {t0 t1 : Value} {H : Heap} {K : Value → Heap → Prop} (h : code_Reader_take t0 t1 H K) : wCall P n_code_Reader_take [t0, t1] H K := wCall_of_vcF rfl ((code_Reader_take_eq t0 t1 H K).mpr h)

/-! bootjack/code.within -/
def code_within (t0 : Value) (H : Heap) (K : Value → Heap → Prop) : Prop :=
opW (withH H (minA [t0, (.int .i64 8)])) fun t4 H1 =>
opW (withH H1 (maxA [(.int .i64 0), t4])) fun t5 H3 =>
K t5 H3
theorem code_within_eq (t0 : Value) (H : Heap) (K : Value → Heap → Prop) : vcF P n_code_within [t0] H K = code_within t0 H K := by kernel_rfl
theorem code_within_ok {t0 : Value} {H : Heap} {K : Value → Heap → Prop} (h : code_within t0 H K) : wCall P n_code_within [t0] H K := wCall_of_vcF rfl ((code_within_eq t0 H K).mpr h)

/-! slices.Concat[[]byte,byte] -/
noncomputable abbrev slices_Concat_byte_byte_P0 : Code := loopAt P n_slices_Concat_byte_byte 0
noncomputable abbrev slices_Concat_byte_byte_P1 : Code := loopAt P n_slices_Concat_byte_byte 1
/-- loop 0: goes on from the slots [0, 2, 3, 9, 10, 11]; leaves [0, 2, 3] -/
def slices_Concat_byte_byte_L0 (l : List Value) (H : Heap) (N : List Value → Heap → Prop) (Qx : Nat → List Value → Heap → Prop) (Qr : List Value → Heap → Prop) : Prop :=
opP ((binC P .lss 3 false).f (nth l 5) (nth l 4)) fun t12 =>
wIf t12 (
opP (idxSl 1 (nth l 3) (nth l 5)) fun t13 =>
opW (loadOne t13 H) fun t14 H3 =>
opW (lenSl t14 H3) fun t17 H5 =>
opP ((binC P .add 3 false).f (nth l 2) t17) fun t18 =>
opP ((binC P .lss 3 true).f t18 (.int .i64 0)) fun t20 =>
wIf t20 (
False) (
opP ((binC P .add 3 true).f (nth l 5) (.int .i64 1)) fun t22 =>
N [(nth l 0), (nth l 1), t18, (nth l 3), (nth l 4), t22] H5)) (
Qx 0 [(nth l 0), (nth l 1), (nth l 2)] H)
theorem slices_Concat_byte_byte_L0_eq (l : List Value) (H : Heap) (N : List Value → Heap → Prop) (Qx : Nat → List Value → Heap → Prop) (Qr : List Value → Heap → Prop) : vcC P true 36 slices_Concat_byte_byte_P0 (live slices_Concat_byte_byte_P0 0 13) 13 (envOf (bits 36 (live slices_Concat_byte_byte_P0 0 13)) l) H (loopQ 36 slices_Concat_byte_byte_P0 13 N Qx Qr) = slices_Concat_byte_byte_L0 l H N Qx Qr := by kernel_rfl
theorem slices_Concat_byte_byte_L0_ind (I : Nat → List Value → Heap → Prop) (Qx : Nat → List Value → Heap → Prop) (Qr : List Value → Heap → Prop) (hs : ∀ k l H, I k l H → slices_Concat_byte_byte_L0 l H (fun l H => ∃ k', k' < k ∧ I k' l H) Qx Qr) (k : Nat) (l : List Value) (H : Heap) (h : I k l H) : wLoop P true 36 slices_Concat_byte_byte_P0 13 l H Qx Qr :=
  loop_ind (by kernel_rfl) I (fun k l H h => (slices_Concat_byte_byte_L0_eq l H _ Qx Qr).mpr (hs k l H h)) k l H h

/-- loop 1: goes on from the slots [2, 6, 25, 26, 27]; leaves [2, 6] -/
def slices_Concat_byte_byte_L1 (l : List Value) (H : Heap) (N : List Value → Heap → Prop) (Qx : Nat → List Value → Heap → Prop) (Qr : List Value → Heap → Prop) : Prop :=
opP ((binC P .lss 3 false).f (nth l 4) (nth l 3)) fun t28 =>
wIf t28 (
opP (idxSl 1 (nth l 2) (nth l 4)) fun t29 =>
opW (loadOne t29 H) fun t30 H3 =>
opW (appendWith 1 1 (nth l 1) t30 H3) fun t33 H5 =>
opP ((binC P .add 3 true).f (nth l 4) (.int .i64 1)) fun t34 =>
N [(nth l 0), t33, (nth l 2), (nth l 3), t34] H5) (
Qx 2 [(nth l 0), (nth l 1)] H)
theorem slices_Concat_byte_byte_L1_eq (l : List Value) (H : Heap) (N : List Value → Heap → Prop) (Qx : Nat → List Value → Heap → Prop) (Qr : List Value → Heap → Prop) : vcC P true 36 slices_Concat_byte_byte_P1 (live slices_Concat_byte_byte_P1 0 68) 68 (envOf (bits 36 (live slices_Concat_byte_byte_P1 0 68)) l) H (loopQ 36 slices_Concat_byte_byte_P1 68 N Qx Qr) = slices_Concat_byte_byte_L1 l H N Qx Qr := by kernel_rfl
theorem slices_Concat_byte_byte_L1_ind (I : Nat → List Value → Heap → Prop) (Qx : Nat → List Value → Heap → Prop) (Qr : List Value → Heap → Prop) (hs : ∀ k l H, I k l H → slices_Concat_byte_byte_L1 l H (fun l H => ∃ k', k' < k ∧ I k' l H) Qx Qr) (k : Nat) (l : List Value) (H : Heap) (h : I k l H) : wLoop P true 36 slices_Concat_byte_byte_P1 68 l H Qx Qr :=
  loop_ind (by kernel_rfl) I (fun k l H h => (slices_Concat_byte_byte_L1_eq l H _ Qx Qr).mpr (hs k l H h)) k l H h
def slices_Concat_byte_byte (t0 : Value) (H : Heap) (K : Value → Heap → Prop) : Prop :=
opW (lenSl t0 H) fun t10 H1 =>
wLoop P true 36 slices_Concat_byte_byte_P0 13 [t0, (.slice none 0 0), (.int .i64 0), t0, t10, (.int .i64 0)] H1 (fun id l H3 =>
cond (Nat.beq id 0) (
wCall P n_slices_Grow_byte_byte [(.slice none 0 0), (nth l 2)] H3 fun t24 H5 =>
opW (lenSl (nth l 0) H5) fun t26 H7 =>
wLoop P true 36 slices_Concat_byte_byte_P1 68 [(nth l 1), t24, (nth l 0), t26, (.int .i64 0)] H7 (fun id l_1 H9 =>
cond (Nat.beq id 2) (
K (nth l_1 1) H9) (
False)) (fun l_1 H9 =>
K (nth l_1 0) H9)) (
False)) (fun l H3 =>
K (nth l 1) H3)
theorem slices_Concat_byte_byte_eq (t0 : Value) (H : Heap) (K : Value → Heap → Prop) : vcF P n_slices_Concat_byte_byte [t0] H K = slices_Concat_byte_byte t0 H K := by kernel_rfl
theorem slices_Concat_byte_byte_ok {t0 : Value} {H : Heap} {K : Value → Heap → Prop} (h : slices_Concat_byte_byte t0 H K) : wCall P n_slices_Concat_byte_byte [t0] H K := wCall_of_vcF rfl ((slices_Concat_byte_byte_eq t0 H K).mpr h)

/-! slices.Clone[[]byte,byte] -/
def slices_Clone_byte_byte (t0 : Value) (H : Heap) (K : Value → Heap → Prop) : Prop :=
opP ((binC P .eql 46 true).f t0 (.slice none 0 0)) fun t4 =>
wIf t4 (
K (.slice none 0 0) H) (
opW ((buildSliceC P 46 0).f [] H) fun t5 H2 =>
opW (appendWith 1 1 t5 t0 H2) fun t7 H4 =>
K t7 H4)
theorem slices_Clone_byte_byte_eq (t0 : Value) (H : Heap) (K : Value → Heap → Prop) : vcF P n_slices_Clone_byte_byte [t0] H K = slices_Clone_byte_byte t0 H K := by kernel_rfl
theorem slices_Clone_byte_byte_ok {t0 : Value} {H : Heap} {K : Value → Heap → Prop} (h : slices_Clone_byte_byte t0 H K) : wCall P n_slices_Clone_byte_byte [t0] H K := wCall_of_vcF rfl ((slices_Clone_byte_byte_eq t0 H K).mpr h)

/-! bootjack/bootjackref11.One -/
def ref11_One (t0 : Value) (H : Heap) (K : Value → Heap → Prop) : Prop :=
wNew (cellsL t0) H fun t1 H1 =>
opP (offPtr 0 t1) fun t3 =>
opW (loadOne t3 H1) fun t4 H4 =>
opP ((binC P .eql 3 true).f t4 (.int .i64 1)) fun t6 =>
wIf t6 (
opP (offPtr 2 t1) fun t7 =>
opW (loadOne t7 H4) fun t8 H8 =>
opP ((binC P .eql 3 true).f t8 (.int .i64 0)) fun t9 =>
wIf t9 (
opP (offPtr 39 t1) fun t11 =>
opW (loadOne t11 H8) fun t12 H12 =>
opP ((binC P .eql 30 true).f t12 (.int .u64 0)) fun t13 =>
opP (pickA t9 t13 (.bool false)) fun t14 =>
wIf t14 (
opP (offPtr 1 t1) fun t16 =>
opW (loadOne t16 H12) fun t17 H17 =>
opP ((binC P .geq 3 true).f t17 (.int .i64 0)) fun t18 =>
opP (pickA t14 t18 (.bool false)) fun t19 =>
wIf t19 (
opP (offPtr 1 t1) fun t21 =>
opW (loadOne t21 H17) fun t22 H22 =>
opP ((binC P .leq 3 true).f t22 (.int .i64 1)) fun t23 =>
opP (pickA t19 t23 (.bool false)) fun t24 =>
wIf t24 (
opP (offPtr 3 t1) fun t26 =>
opW (loadAgg 36 t26 H22) fun t27 H27 =>
wCall P n_ref10_Right [t27] H27 fun t28 H29 =>
opP (pickA t24 t28 (.bool false)) fun t29 =>
K t29 H29) (
opP (pickA t24 undef (.bool false)) fun t29_1 =>
K t29_1 H22)) (
opP (pickA t19 undef (.bool false)) fun t24_1 =>
opP (pickA t24_1 undef (.bool false)) fun t29_2 =>
K t29_2 H17)) (
opP (pickA t14 undef (.bool false)) fun t19_1 =>
opP (pickA t19_1 undef (.bool false)) fun t24_2 =>
opP (pickA t24_2 undef (.bool false)) fun t29_3 =>
K t29_3 H12)) (
opP (pickA t9 undef (.bool false)) fun t14_1 =>
opP (pickA t14_1 undef (.bool false)) fun t19_2 =>
opP (pickA t19_2 undef (.bool false)) fun t24_3 =>
opP (pickA t24_3 undef (.bool false)) fun t29_4 =>
K t29_4 H8)) (
opP ((binC P .eql 3 true).f t4 (.int .i64 2)) fun t31 =>
wIf t31 (
opP (offPtr 1 t1) fun t32 =>
opW (loadOne t32 H4) fun t33 H44 =>
opP ((binC P .eql 3 true).f t33 (.int .i64 0)) fun t34 =>
wIf t34 (
opP (offPtr 39 t1) fun t36 =>
opW (loadOne t36 H44) fun t37 H48 =>
opP ((binC P .eql 30 true).f t37 (.int .u64 0)) fun t38 =>
opP (pickA t34 t38 (.bool false)) fun t39 =>
wIf t39 (
opP (offPtr 3 t1) fun t41 =>
opW (loadAgg 36 t41 H48) fun t42 H53 =>
opP ((buildC P 34).f []) fun t43 =>
opP ((binC P .eql 34 false).f t42 t43) fun t44 =>
opP (pickA t39 t44 (.bool false)) fun t45 =>
wIf t45 (
opP (offPtr 2 t1) fun t47 =>
opW (loadOne t47 H53) fun t48 H59 =>
opP ((binC P .geq 3 true).f t48 (.int .i64 0)) fun t49 =>
opP (pickA t45 t49 (.bool false)) fun t50 =>
wIf t50 (
opP (offPtr 2 t1) fun t52 =>
opW (loadOne t52 H59) fun t53 H64 =>
opP ((binC P .leq 3 true).f t53 (.int .i64 1)) fun t54 =>
opP (pickA t50 t54 (.bool false)) fun t55 =>
K t55 H64) (
opP (pickA t50 undef (.bool false)) fun t55_1 =>
K t55_1 H59)) (
opP (pickA t45 undef (.bool false)) fun t50_1 =>
opP (pickA t50_1 undef (.bool false)) fun t55_2 =>
K t55_2 H53)) (
opP (pickA t39 undef (.bool false)) fun t45_1 =>
opP (pickA t45_1 undef (.bool false)) fun t50_2 =>
opP (pickA t50_2 undef (.bool false)) fun t55_3 =>
K t55_3 H48)) (
opP (pickA t34 undef (.bool false)) fun t39_1 =>
opP (pickA t39_1 undef (.bool false)) fun t45_2 =>
opP (pickA t45_2 undef (.bool false)) fun t50_3 =>
opP (pickA t50_3 undef (.bool false)) fun t55_4 =>
K t55_4 H44)) (
opP ((binC P .eql 3 true).f t4 (.int .i64 3)) fun t57 =>
wIf t57 (
opP (offPtr 1 t1) fun t58 =>
opW (loadOne t58 H4) fun t59 H80 =>
opP ((binC P .eql 3 true).f t59 (.int .i64 0)) fun t60 =>
wIf t60 (
opP (offPtr 39 t1) fun t62 =>
opW (loadOne t62 H80) fun t63 H84 =>
opP ((binC P .eql 30 true).f t63 (.int .u64 0)) fun t64 =>
opP (pickA t60 t64 (.bool false)) fun t65 =>
wIf t65 (
opP (offPtr 3 t1) fun t67 =>
opW (loadAgg 36 t67 H84) fun t68 H89 =>
opP ((buildC P 34).f []) fun t69 =>
opP ((binC P .eql 34 false).f t68 t69) fun t70 =>
opP (pickA t65 t70 (.bool false)) fun t71 =>
wIf t71 (
opP (offPtr 2 t1) fun t73 =>
opW (loadOne t73 H89) fun t74 H95 =>
opP ((binC P .geq 3 true).f t74 (.int .i64 (-1))) fun t75 =>
opP (pickA t71 t75 (.bool false)) fun t76 =>
wIf t76 (
opP (offPtr 2 t1) fun t78 =>
opW (loadOne t78 H95) fun t79 H100 =>
opP ((binC P .leq 3 true).f t79 (.int .i64 1)) fun t80 =>
opP (pickA t76 t80 (.bool false)) fun t81 =>
K t81 H100) (
opP (pickA t76 undef (.bool false)) fun t81_1 =>
K t81_1 H95)) (
opP (pickA t71 undef (.bool false)) fun t76_1 =>
opP (pickA t76_1 undef (.bool false)) fun t81_2 =>
K t81_2 H89)) (
opP (pickA t65 undef (.bool false)) fun t71_1 =>
opP (pickA t71_1 undef (.bool false)) fun t76_2 =>
opP (pickA t76_2 undef (.bool false)) fun t81_3 =>
K t81_3 H84)) (
opP (pickA t60 undef (.bool false)) fun t65_1 =>
opP (pickA t65_1 undef (.bool false)) fun t71_2 =>
opP (pickA t71_2 undef (.bool false)) fun t76_3 =>
opP (pickA t76_3 undef (.bool false)) fun t81_4 =>
K t81_4 H80)) (
opP ((binC P .eql 3 true).f t4 (.int .i64 4)) fun t83 =>
wIf t83 (
opP (offPtr 1 t1) fun t84 =>
opW (loadOne t84 H4) fun t85 H116 =>
opP ((binC P .eql 3 true).f t85 (.int .i64 0)) fun t86 =>
wIf t86 (
opP (offPtr 2 t1) fun t88 =>
opW (loadOne t88 H116) fun t89 H120 =>
opP ((binC P .eql 3 true).f t89 (.int .i64 0)) fun t90 =>
opP (pickA t86 t90 (.bool false)) fun t91 =>
wIf t91 (
opP (offPtr 3 t1) fun t93 =>
opW (loadAgg 36 t93 H120) fun t94 H125 =>
opP ((buildC P 34).f []) fun t95 =>
opP ((binC P .eql 34 false).f t94 t95) fun t96 =>
opP (pickA t91 t96 (.bool false)) fun t97 =>
wIf t97 (
opP (offPtr 39 t1) fun t99 =>
opW (loadOne t99 H125) fun t100 H131 =>
opP ((binC P .leq 30 true).f t100 (.int .u64 281474976710656)) fun t101 =>
opP (pickA t97 t101 (.bool false)) fun t102 =>
K t102 H131) (
opP (pickA t97 undef (.bool false)) fun t102_1 =>
K t102_1 H125)) (
opP (pickA t91 undef (.bool false)) fun t97_1 =>
opP (pickA t97_1 undef (.bool false)) fun t102_2 =>
K t102_2 H120)) (
opP (pickA t86 undef (.bool false)) fun t91_1 =>
opP (pickA t91_1 undef (.bool false)) fun t97_2 =>
opP (pickA t97_2 undef (.bool false)) fun t102_3 =>
K t102_3 H116)) (
K (.bool false) H4))))
theorem ref11_One_eq (t0 : Value) (H : Heap) (K : Value → Heap → Prop) : vcF P n_ref11_One [t0] H K = ref11_One t0 H K := by kernel_rfl
theorem ref11_One_ok {t0 : Value} {H : Heap} {K : Value → Heap → Prop} (h : ref11_One t0 H K) : wCall P n_ref11_One [t0] H K := wCall_of_vcF rfl ((ref11_One_eq t0 H K).mpr h)

/-! bootjack/bootjackref05.size -/
def ref05_size (t0 : Value) (H : Heap) (K : Value → Heap → Prop) : Prop :=
opP ((binC P .lss 3 true).f t0 (.int .i64 0)) fun t4 =>
wIf t4 (
K (.int .i64 0) H) (
opP ((binC P .gtr 3 true).f t0 (.int .i64 8)) fun t6 =>
wIf t6 (
K (.int .i64 8) H) (
K t0 H))
theorem ref05_size_eq (t0 : Value) (H : Heap) (K : Value → Heap → Prop) : vcF P n_ref05_size [t0] H K = ref05_size t0 H K := by kernel_rfl
theorem ref05_size_ok {t0 : Value} {H : Heap} {K : Value → Heap → Prop} (h : ref05_size t0 H K) : wCall P n_ref05_size [t0] H K := wCall_of_vcF rfl ((ref05_size_eq t0 H K).mpr h)

/-! bootjack/bootjackref05.Raw -/
def ref05_Raw (t0 t1 : Value) (H : Heap) (K : Value → Heap → Prop) : Prop :=
wJoin (fun J =>
opP ((binC P .lss 3 true).f t1 (.int .i64 0)) fun t7 =>
wIf t7 (
J [t0, (.int .i64 0)] H) (
J [t0, t1] H)) (fun l H3 =>
wJoin (fun J_1 =>
wJoin (fun J_2 =>
opP (nilCheckA (nth l 0)) fun t9 =>
opP (offPtr 1 t9) fun t10 =>
opW (loadOne t10 H3) fun t11 H9 =>
opP ((binC P .eql 3 true).f t11 (.int .i64 0)) fun t12 =>
wIf t12 (
opP (nilCheckA (nth l 0)) fun t16 =>
opP (offPtr 0 t16) fun t17 =>
opW (loadOne t17 H9) fun t18 H14 =>
opW (lenSl t18 H14) fun t19 H16 =>
opP ((binC P .gtr 3 false).f (nth l 1) t19) fun t20 =>
opP (pickA t12 t20 (.bool false)) fun t21 =>
J_2 [(nth l 0), (nth l 1), t21] H16) (
opP (pickA t12 undef (.bool false)) fun t21_1 =>
J_2 [(nth l 0), (nth l 1), t21_1] H9)) (fun l_1 H21 =>
wIf (nth l_1 2) (
opP (nilCheckA (nth l_1 0)) fun t23 =>
opP (offPtr 1 t23) fun t24 =>
opW (storeTo 1 t24 (.int .i64 51) H21) fun u H25 =>
J_1 [(nth l_1 0), (nth l_1 1)] H25) (
J_1 [(nth l_1 0), (nth l_1 1)] H21))) (fun l_2 H27 =>
opP (nilCheckA (nth l_2 0)) fun t26 =>
opP (offPtr 1 t26) fun t27 =>
opW (loadOne t27 H27) fun t28 H31 =>
opP ((binC P .neq 3 true).f t28 (.int .i64 0)) fun t29 =>
wIf t29 (
opP (nilCheckA (nth l_2 0)) fun t31 =>
opP (offPtr 0 t31) fun t32 =>
opW (storeTo 1 t32 (.slice none 0 0) H31) fun u_1 H36 =>
K (.slice none 0 0) H36) (
opW ((buildSliceC P 46 0).f [] H31) fun t33 H38 =>
opP (nilCheckA (nth l_2 0)) fun t35 =>
opP (offPtr 0 t35) fun t36 =>
opW (loadOne t36 H38) fun t37 H42 =>
opP (sliceSl 1 t37 none (some (nth l_2 1)) none) fun t39 =>
opW (appendWith 1 1 t33 t39 H42) fun t40 H45 =>
opP (nilCheckA (nth l_2 0)) fun t43 =>
opP (offPtr 0 t43) fun t44 =>
opW (loadOne t44 H45) fun t45 H49 =>
opP (sliceSl 1 t45 (some (nth l_2 1)) none none) fun t47 =>
opP (nilCheckA (nth l_2 0)) fun t48 =>
opP (offPtr 0 t48) fun t49 =>
opW (storeTo 1 t49 t47 H49) fun u_2 H54 =>
K t40 H54)))
theorem ref05_Raw_eq (t0 t1 : Value) (H : Heap) (K : Value → Heap → Prop) : vcF P n_ref05_Raw [t0, t1] H K = ref05_Raw t0 t1 H K := by kernel_rfl
theorem ref05_Raw_ok {t0 t1 : Value} {H : Heap} {K : Value → Heap → Prop} (h : ref05_Raw t0 t1 H K) : wCall P n_ref05_Raw [t0, t1] H K := wCall_of_vcF rfl ((ref05_Raw_eq t0 t1 H K).mpr h)

/-! slices.Backward[[]byte,byte]$1 -/
noncomputable abbrev slices_Backward_byte_byte_1_P0 : Code := loopAt P n_slices_Backward_byte_byte_1 0
/-- loop 0: goes on from the slots [0, 1, 3]; leaves [] -/
def slices_Backward_byte_byte_1_L0 (l : List Value) (H : Heap) (N : List Value → Heap → Prop) (Qx : Nat → List Value → Heap → Prop) (Qr : List Value → Heap → Prop) : Prop :=
opP ((binC P .geq 3 true).f (nth l 2) (.int .i64 0)) fun t8 =>
wIf t8 (
opW (loadOne (nth l 1) H) fun t13 H2 =>
opP (idxSl 1 t13 (nth l 2)) fun t15 =>
opW (loadOne t15 H2) fun t16 H5 =>
wTgt P (callee1 (nth l 0) [(nth l 2), t16]) H5 fun t17 H7 =>
opP (unA .not t17) fun t18 =>
wIf t18 (
Qr [] H7) (
opP ((binC P .sub 3 true).f (nth l 2) (.int .i64 1)) fun t10 =>
N [(nth l 0), (nth l 1), t10] H7)) (
Qx 0 [] H)
theorem slices_Backward_byte_byte_1_L0_eq (l : List Value) (H : Heap) (N : List Value → Heap → Prop) (Qx : Nat → List Value → Heap → Prop) (Qr : List Value → Heap → Prop) : vcC P true 19 slices_Backward_byte_byte_1_P0 (live slices_Backward_byte_byte_1_P0 0 0) 0 (envOf (bits 19 (live slices_Backward_byte_byte_1_P0 0 0)) l) H (loopQ 19 slices_Backward_byte_byte_1_P0 0 N Qx Qr) = slices_Backward_byte_byte_1_L0 l H N Qx Qr := by kernel_rfl
theorem slices_Backward_byte_byte_1_L0_ind (I : Nat → List Value → Heap → Prop) (Qx : Nat → List Value → Heap → Prop) (Qr : List Value → Heap → Prop) (hs : ∀ k l H, I k l H → slices_Backward_byte_byte_1_L0 l H (fun l H => ∃ k', k' < k ∧ I k' l H) Qx Qr) (k : Nat) (l : List Value) (H : Heap) (h : I k l H) : wLoop P true 19 slices_Backward_byte_byte_1_P0 0 l H Qx Qr :=
  loop_ind (by kernel_rfl) I (fun k l H h => (slices_Backward_byte_byte_1_L0_eq l H _ Qx Qr).mpr (hs k l H h)) k l H h
def slices_Backward_byte_byte_1 (t0 t1 : Value) (H : Heap) (K : Value → Heap → Prop) : Prop :=
opW (loadOne t1 H) fun t4 H1 =>
opW (lenSl t4 H1) fun t5 H3 =>
opP ((binC P .sub 3 true).f t5 (.int .i64 1)) fun t6 =>
wLoop P true 19 slices_Backward_byte_byte_1_P0 0 [t0, t1, t6] H3 (fun id l H6 =>
cond (Nat.beq id 0) (
K (.tuple [].toArray) H6) (
False)) (fun l H6 =>
K (.tuple [].toArray) H6)
theorem slices_Backward_byte_byte_1_eq (t0 t1 : Value) (H : Heap) (K : Value → Heap → Prop) : vcF P n_slices_Backward_byte_byte_1 [t0, t1] H K = slices_Backward_byte_byte_1 t0 t1 H K := by kernel_rfl
theorem slices_Backward_byte_byte_1_ok {t0 t1 : Value} {H : Heap} {K : Value → Heap → Prop} (h : slices_Backward_byte_byte_1 t0 t1 H K) : wCall P n_slices_Backward_byte_byte_1 [t0, t1] H K := wCall_of_vcF rfl ((slices_Backward_byte_byte_1_eq t0 t1 H K).mpr h)

/-! (*bootjack/code.Reader).fail -/
def code_Reader_fail (t0 t1 : Value) (H : Heap) (K : Value → Heap → Prop) : Prop :=
opP (nilCheckA t0) fun t5 =>
opP (offPtr 1 t5) fun t6 =>
opW (loadOne t6 H) fun t7 H3 =>
opP ((binC P .eql 24 true).f t7 (.int .i64 0)) fun t8 =>
wIf t8 (
opP (nilCheckA t0) fun t11 =>
opP (offPtr 1 t11) fun t12 =>
opW (storeTo 1 t12 t1 H3) fun u H8 =>
opP (nilCheckA t0) fun t14 =>
opP (offPtr 0 t14) fun t15 =>
opW (storeTo 1 t15 (.slice none 0 0) H8) fun u_1 H12 =>
K (.tuple [].toArray) H12) (
opP (nilCheckA t0) fun t14_1 =>
opP (offPtr 0 t14_1) fun t15_1 =>
opW (storeTo 1 t15_1 (.slice none 0 0) H3) fun u_2 H16 =>
K (.tuple [].toArray) H16)
theorem code_Reader_fail_eq (t0 t1 : Value) (H : Heap) (K : Value → Heap → Prop) : vcF P n_code_Reader_fail [t0, t1] H K = code_Reader_fail t0 t1 H K := by kernel_rfl
theorem code_Reader_fail_ok {t0 t1 : Value} {H : Heap} {K : Value → Heap → Prop} (h : code_Reader_fail t0 t1 H K) : wCall P n_code_Reader_fail [t0, t1] H K := wCall_of_vcF rfl ((code_Reader_fail_eq t0 t1 H K).mpr h)

/-! slices.Grow[[]byte,byte] -/
def slices_Grow_byte_byte (t0 t1 : Value) (H : Heap) (K : Value → Heap → Prop) : Prop :=
wJoin (fun J =>
opP ((binC P .lss 3 true).f t1 (.int .i64 0)) fun t6 =>
wIf t6 (
False) (
J [t0, t1] H)) (fun l H3 =>
opW ((builtinC P .cap [46]).f [(nth l 0)] H3) fun t10 H5 =>
opW (lenSl (nth l 0) H5) fun t12 H7 =>
opP ((binC P .sub 3 false).f t10 t12) fun t13 =>
opP ((binC P .sub 3 false).f (nth l 1) t13) fun t14 =>
opP ((binC P .gtr 3 true).f t14 (.int .i64 0)) fun t16 =>
wIf t16 (
opW ((builtinC P .cap [46]).f [(nth l 0)] H7) fun t19 H12 =>
opP (sliceSl 1 (nth l 0) none (some t19) none) fun t20 =>
opW ((builtinC P .append [46, 3]).f [t20, t14] H12) fun t22 H15 =>
opW (lenSl (nth l 0) H15) fun t24 H17 =>
opP (sliceSl 1 t22 none (some t24) none) fun t25 =>
K t25 H17) (
K (nth l 0) H7))
theorem slices_Grow_byte_byte_eq (t0 t1 : Value) (H : Heap) (K : Value → Heap → Prop) : vcF P n_slices_Grow_byte_byte [t0, t1] H K = slices_Grow_byte_byte t0 t1 H K := by kernel_rfl
theorem slices_Grow_byte_byte_ok {t0 t1 : Value} {H : Heap} {K : Value → Heap → Prop} (h : slices_Grow_byte_byte t0 t1 H K) : wCall P n_slices_Grow_byte_byte [t0, t1] H K := wCall_of_vcF rfl ((slices_Grow_byte_byte_eq t0 t1 H K).mpr h)

end
end T
