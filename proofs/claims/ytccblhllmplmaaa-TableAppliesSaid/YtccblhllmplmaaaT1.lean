import Derived.Test.YtccblhllmplmaaaAbU
import Derived.Test.YtccblhllmplmaaaProg
import Derived.KernelRfl
set_option linter.unusedVariables false
set_option maxRecDepth 100000
namespace T
open Go Go.Ab
noncomputable abbrev P : Program := Go.Proofs.Try.prog
noncomputable section
abbrev n_law11_TableApplies : Nat := 4
abbrev n_law11_TableSlots : Nat := 7
abbrev n_law11_tableAlive : Nat := 10
abbrev n_table_Apply : Nat := 13
abbrev n_table_Bytes : Nat := 16
abbrev n_ref11_Apply : Nat := 17
abbrev n_table_Right : Nat := 18
abbrev n_ref11_Right : Nat := 19
abbrev n_ref11_Bytes : Nat := 20
abbrev n_table_Put : Nat := 21
abbrev n_ref11_Put : Nat := 22
abbrev n_ref10_Right : Nat := 26
abbrev n_table_transaction : Nat := 37
abbrev n_code_Raw : Nat := 43
abbrev n_slot_Bytes : Nat := 44
abbrev n_code_Fixed : Nat := 45
abbrev n_ref11_All : Nat := 46
abbrev n_slot_Right : Nat := 47
abbrev n_table_index : Nat := 48
abbrev n_ref10_Bytes : Nat := 49
abbrev n_ref05_Fixed : Nat := 50
abbrev n_table_right : Nat := 60
abbrev n_code_within : Nat := 65
abbrev n_slices_Concat_byte_byte : Nat := 66
abbrev n_slices_Clone_byte_byte : Nat := 67
abbrev n_ref11_One : Nat := 68
abbrev n_ref05_size : Nat := 69
abbrev n_slices_Grow_byte_byte : Nat := 79
instance : Orc := orc1 n_law11_tableAlive
theorem law11_tableAlive_spec {H : Heap} {K : Value → Heap → Prop} (hk : K (.bool true) H) : wCall P n_law11_tableAlive [] H K := ⟨1, .ret, _, H, rfl, hk⟩
/-! bootjack/bootjacklaw11.TableApplies -/
def law11_TableApplies (t0 t1 : Value) (H : Heap) (K : Value → Heap → Prop) : Prop :=
wNew (cellsL t0) H fun t2 H1 =>
wCall P n_law11_tableAlive [] H1 fun t9 H3 =>
opP (unA .not t9) fun t10 =>
wIf t10 (
K (.bool false) H3) (
opW (lenSl t1 H3) fun t12 H6 =>
opP ((binC P .gtr 3 true).f t12 (.int .i64 30)) fun t13 =>
wIf t13 (
K (.bool true) H6) (
opW (loadAgg 75 t2 H6) fun t15 H9 =>
wCall P n_table_Apply [t15, t1] H9 fun t17 H11 =>
opP (extA 0 t17) fun t18 =>
opP (extA 1 t17) fun t19 =>
wNew (zc P 37) H11 fun t5 H15 =>
opW (storeTo 75 t5 t18 H15) fun u H17 =>
opW (loadAgg 75 t2 H17) fun t21 H19 =>
wCall P n_ref11_Apply [t21, t1] H19 fun t23 H21 =>
opP (extA 0 t23) fun t24 =>
opP (extA 1 t23) fun t25 =>
wNew (zc P 37) H21 fun t7 H25 =>
opW (storeTo 75 t7 t24 H25) fun u_1 H27 =>
opW (loadAgg 75 t2 H27) fun t26 H29 =>
wCall P n_table_Right [t26] H29 fun t27 H31 =>
opW (loadAgg 75 t2 H31) fun t28 H33 =>
cSame (sameB H29 H31) (idsOf [t2]) ∧ (wCall P n_ref11_Right [t28] H33 fun t29 H35 =>
opP ((binC P .eql 4 false).f t27 t29) fun t30 =>
wIf t30 (
opW (loadAgg 75 t5 H35) fun t32 H38 =>
opW (loadAgg 75 t7 H38) fun t33 H40 =>
opP ((binC P .eql 37 false).f t32 t33) fun t34 =>
opP (pickA t30 t34 (.bool false)) fun t35 =>
wIf t35 (
opP ((binC P .eql 3 false).f t19 t25) fun t39 =>
opP (pickA t35 t39 (.bool false)) fun t40 =>
wIf t40 (
opW (loadAgg 75 t2 H40) fun t42 H46 =>
wCall P n_table_Bytes [t42] H46 fun t43 H48 =>
opW (bytesToStr t43 H48) fun t44 H50 =>
opW (loadAgg 75 t2 H50) fun t45 H52 =>
cSame (sameB H46 H48) (idsOf [t2]) ∧ (wCall P n_ref11_Bytes [t45] H52 fun t46 H54 =>
cSame (sameB H52 H54) (idsOf [t43]) ∧ (opW (bytesToStr t46 H54) fun t47 H56 =>
opP ((binC P .eql 9 false).f t44 t47) fun t48 =>
opP (pickA t40 t48 (.bool false)) fun t49 =>
wIf t49 (
wCall P n_table_Put [t1] H56 fun t52 H60 =>
opW (bytesToStr t52 H60) fun t53 H62 =>
wCall P n_ref11_Put [t1] H62 fun t55 H64 =>
cSame (sameB H62 H64) (idsOf [t52]) ∧ (opW (bytesToStr t55 H64) fun t56 H66 =>
opP ((binC P .eql 9 false).f t53 t56) fun t57 =>
opP (pickA t49 t57 (.bool false)) fun t58 =>
K t58 H66)) (
opP (pickA t49 undef (.bool false)) fun t58_1 =>
K t58_1 H56)))) (
opP (pickA t40 undef (.bool false)) fun t49_1 =>
opP (pickA t49_1 undef (.bool false)) fun t58_2 =>
K t58_2 H40)) (
opP (pickA t35 undef (.bool false)) fun t40_1 =>
opP (pickA t40_1 undef (.bool false)) fun t49_2 =>
opP (pickA t49_2 undef (.bool false)) fun t58_3 =>
K t58_3 H40)) (
opP (pickA t30 undef (.bool false)) fun t35_1 =>
opP (pickA t35_1 undef (.bool false)) fun t40_2 =>
opP (pickA t40_2 undef (.bool false)) fun t49_3 =>
opP (pickA t49_3 undef (.bool false)) fun t58_4 =>
K t58_4 H35))))
theorem law11_TableApplies_eq (t0 t1 : Value) (H : Heap) (K : Value → Heap → Prop) : vcF P n_law11_TableApplies [t0, t1] H K = law11_TableApplies t0 t1 H K := by kernel_rfl
theorem law11_TableApplies_ok {t0 t1 : Value} {H : Heap} {K : Value → Heap → Prop} (h : law11_TableApplies t0 t1 H K) : wCall P n_law11_TableApplies [t0, t1] H K := wCall_of_vcF rfl ((law11_TableApplies_eq t0 t1 H K).mpr h)

/-! bootjack/bootjacklaw11.TableSlots -/
def law11_TableSlots (t0 t1 t2 : Value) (H : Heap) (K : Value → Heap → Prop) : Prop :=
wNew (cellsL t0) H fun t3 H1 =>
wNew (cellsL t2) H1 fun t5 H3 =>
wCall P n_law11_tableAlive [] H3 fun t11 H5 =>
opP (unA .not t11) fun t12 =>
wIf t12 (
K (.bool false) H5) (
opW (loadAgg 75 t3 H5) fun t14 H8 =>
opW (loadAgg 36 t5 H8) fun t16 H10 =>
opP ((buildC P 41).f [(0, (.int .i64 1)), (1, t1), (3, t16)]) fun t17 =>
opW ((buildSliceC P 43 1).f [(0, t17)] H10) fun t18 H13 =>
wCall P n_table_Apply [t14, t18] H13 fun t19 H15 =>
opP (extA 0 t19) fun t20 =>
opP (extA 1 t19) fun t21 =>
wNew (zc P 37) H15 fun t7 H19 =>
opW (storeTo 75 t7 t20 H19) fun u H21 =>
wJoin (fun J =>
opW (loadAgg 75 t3 H21) fun t22 H24 =>
wCall P n_ref11_Right [t22] H24 fun t23 H26 =>
opP (unA .not t23) fun t24 =>
wIf t24 (
opP (pickA t24 (.bool true) undef) fun t29 =>
opP (pickA t29 (.bool true) undef) fun t33 =>
opP (pickA t33 (.bool true) undef) fun t37 =>
J [t1, t3, t5, t7, t21, t37] H26) (
opW (loadAgg 36 t5 H26) fun t26 H32 =>
wCall P n_ref10_Right [t26] H32 fun t27 H34 =>
opP (unA .not t27) fun t28 =>
opP (pickA t24 (.bool true) t28) fun t29_1 =>
wIf t29_1 (
opP (pickA t29_1 (.bool true) undef) fun t33_1 =>
opP (pickA t33_1 (.bool true) undef) fun t37_1 =>
J [t1, t3, t5, t7, t21, t37_1] H34) (
opP ((binC P .lss 3 true).f t1 (.int .i64 0)) fun t32 =>
opP (pickA t29_1 (.bool true) t32) fun t33_2 =>
wIf t33_2 (
opP (pickA t33_2 (.bool true) undef) fun t37_2 =>
J [t1, t3, t5, t7, t21, t37_2] H34) (
opP ((binC P .gtr 3 true).f t1 (.int .i64 1)) fun t36 =>
opP (pickA t33_2 (.bool true) t36) fun t37_3 =>
J [t1, t3, t5, t7, t21, t37_3] H34)))) (fun l H45 =>
wIf (nth l 5) (
opP ((binC P .eql 24 true).f (nth l 4) (.int .i64 111)) fun t39 =>
wIf t39 (
opW (loadAgg 75 (nth l 3) H45) fun t41 H48 =>
opP ((buildC P 37).f []) fun t42 =>
opP ((binC P .eql 37 false).f t41 t42) fun t43 =>
opP (pickA t39 t43 (.bool false)) fun t44 =>
K t44 H48) (
opP (pickA t39 undef (.bool false)) fun t44_1 =>
K t44_1 H45)) (
opW (loadAgg 75 (nth l 3) H45) fun t46 H54 =>
opP (offPtr 0 (nth l 1)) fun t49 =>
opP (idxPtr 2 36 t49 (nth l 0)) fun t50 =>
opW (loadAgg 36 t50 H54) fun t51 H58 =>
opP ((buildC P 41).f [(0, (.int .i64 1)), (1, (nth l 0)), (3, t51)]) fun t52 =>
opW ((buildSliceC P 43 1).f [(0, t52)] H58) fun t53 H61 =>
wCall P n_table_Apply [t46, t53] H61 fun t54 H63 =>
opP (extA 0 t54) fun t55 =>
opP (extA 1 t54) fun t56 =>
wNew (zc P 37) H63 fun t9 H67 =>
opW (storeTo 75 t9 t55 H67) fun u_1 H69 =>
opP ((binC P .eql 24 true).f (nth l 4) (.int .i64 0)) fun t58 =>
wIf t58 (
opP ((binC P .eql 24 true).f t56 (.int .i64 0)) fun t61 =>
opP (pickA t58 t61 (.bool false)) fun t62 =>
wIf t62 (
opW (loadAgg 75 t9 H69) fun t64 H74 =>
opW (loadAgg 75 (nth l 1) H74) fun t65 H76 =>
opP ((binC P .eql 37 false).f t64 t65) fun t66 =>
opP (pickA t62 t66 (.bool false)) fun t67 =>
wIf t67 (
opP (offPtr 0 (nth l 3)) fun t70 =>
opP (idxPtr 2 36 t70 (nth l 0)) fun t71 =>
opW (loadAgg 36 t71 H76) fun t72 H82 =>
opW (loadAgg 36 (nth l 2) H82) fun t73 H84 =>
opP ((binC P .eql 34 false).f t72 t73) fun t74 =>
opP (pickA t67 t74 (.bool false)) fun t75 =>
wIf t75 (
opP ((binC P .sub 3 true).f (.int .i64 1) (nth l 0)) fun t78 =>
opP (offPtr 0 (nth l 3)) fun t79 =>
opP (idxPtr 2 36 t79 t78) fun t80 =>
opW (loadAgg 36 t80 H84) fun t81 H91 =>
opP ((binC P .sub 3 true).f (.int .i64 1) (nth l 0)) fun t83 =>
opP (offPtr 0 (nth l 1)) fun t84 =>
opP (idxPtr 2 36 t84 t83) fun t85 =>
opW (loadAgg 36 t85 H91) fun t86 H96 =>
opP ((binC P .eql 34 false).f t81 t86) fun t87 =>
opP (pickA t75 t87 (.bool false)) fun t88 =>
wIf t88 (
opP (offPtr 72 (nth l 3)) fun t90 =>
opW (loadOne t90 H96) fun t91 H101 =>
opP (offPtr 72 (nth l 1)) fun t92 =>
opW (loadOne t92 H101) fun t93 H104 =>
opP ((binC P .eql 3 false).f t91 t93) fun t94 =>
opP (pickA t88 t94 (.bool false)) fun t95 =>
wIf t95 (
opP (offPtr 73 (nth l 3)) fun t97 =>
opW (loadOne t97 H104) fun t98 H109 =>
opP (offPtr 73 (nth l 1)) fun t99 =>
opW (loadOne t99 H109) fun t100 H112 =>
opP ((binC P .eql 3 false).f t98 t100) fun t101 =>
opP (pickA t95 t101 (.bool false)) fun t102 =>
wIf t102 (
opP (offPtr 74 (nth l 3)) fun t104 =>
opW (loadOne t104 H112) fun t105 H117 =>
opP (offPtr 74 (nth l 1)) fun t106 =>
opW (loadOne t106 H117) fun t107 H120 =>
opP ((binC P .eql 30 false).f t105 t107) fun t108 =>
opP (pickA t102 t108 (.bool false)) fun t109 =>
K t109 H120) (
opP (pickA t102 undef (.bool false)) fun t109_1 =>
K t109_1 H112)) (
opP (pickA t95 undef (.bool false)) fun t102_1 =>
opP (pickA t102_1 undef (.bool false)) fun t109_2 =>
K t109_2 H104)) (
opP (pickA t88 undef (.bool false)) fun t95_1 =>
opP (pickA t95_1 undef (.bool false)) fun t102_2 =>
opP (pickA t102_2 undef (.bool false)) fun t109_3 =>
K t109_3 H96)) (
opP (pickA t75 undef (.bool false)) fun t88_1 =>
opP (pickA t88_1 undef (.bool false)) fun t95_2 =>
opP (pickA t95_2 undef (.bool false)) fun t102_3 =>
opP (pickA t102_3 undef (.bool false)) fun t109_4 =>
K t109_4 H84)) (
opP (pickA t67 undef (.bool false)) fun t75_1 =>
opP (pickA t75_1 undef (.bool false)) fun t88_2 =>
opP (pickA t88_2 undef (.bool false)) fun t95_3 =>
opP (pickA t95_3 undef (.bool false)) fun t102_4 =>
opP (pickA t102_4 undef (.bool false)) fun t109_5 =>
K t109_5 H76)) (
opP (pickA t62 undef (.bool false)) fun t67_1 =>
opP (pickA t67_1 undef (.bool false)) fun t75_2 =>
opP (pickA t75_2 undef (.bool false)) fun t88_3 =>
opP (pickA t88_3 undef (.bool false)) fun t95_4 =>
opP (pickA t95_4 undef (.bool false)) fun t102_5 =>
opP (pickA t102_5 undef (.bool false)) fun t109_6 =>
K t109_6 H69)) (
opP (pickA t58 undef (.bool false)) fun t62_1 =>
opP (pickA t62_1 undef (.bool false)) fun t67_2 =>
opP (pickA t67_2 undef (.bool false)) fun t75_3 =>
opP (pickA t75_3 undef (.bool false)) fun t88_4 =>
opP (pickA t88_4 undef (.bool false)) fun t95_5 =>
opP (pickA t95_5 undef (.bool false)) fun t102_6 =>
opP (pickA t102_6 undef (.bool false)) fun t109_7 =>
K t109_7 H69))))
theorem law11_TableSlots_eq (t0 t1 t2 : Value) (H : Heap) (K : Value → Heap → Prop) : vcF P n_law11_TableSlots [t0, t1, t2] H K = law11_TableSlots t0 t1 t2 H K := by kernel_rfl
theorem law11_TableSlots_ok {t0 t1 t2 : Value} {H : Heap} {K : Value → Heap → Prop} (h : law11_TableSlots t0 t1 t2 H K) : wCall P n_law11_TableSlots [t0, t1, t2] H K := wCall_of_vcF rfl ((law11_TableSlots_eq t0 t1 t2 H K).mpr h)

/-! bootjack/table.Apply -/
noncomputable abbrev table_Apply_P0 : Code := loopAt P n_table_Apply 0
/-- loop 0: goes on from the slots [2, 4, 5, 17, 18, 19]; leaves [2, 4, 5] -/
def table_Apply_L0 (l : List Value) (H : Heap) (N : List Value → Heap → Prop) (Qx : Nat → List Value → Heap → Prop) (Qr : List Value → Heap → Prop) : Prop :=
opP ((binC P .lss 3 false).f (nth l 5) (nth l 4)) fun t20 =>
wIf t20 (
opP (idxSl 40 (nth l 3) (nth l 5)) fun t21 =>
opW (loadAgg 40 t21 H) fun t22 H3 =>
wNew (zc P 41) H3 fun t7 H5 =>
opW (storeTo 40 t7 t22 H5) fun u H7 =>
opP (offPtr 0 t7) fun t23 =>
opW (loadOne t23 H7) fun t24 H10 =>
opP ((binC P .eql 3 true).f t24 (.int .i64 1)) fun t26 =>
wIf t26 (
opP (offPtr 1 t7) fun t27 =>
opW (loadOne t27 H10) fun t28 H14 =>
opP (offPtr 3 t7) fun t29 =>
opW (loadAgg 36 t29 H14) fun t30 H17 =>
opP (offPtr 0 (nth l 0)) fun t31 =>
opP (idxPtr 2 36 t31 t28) fun t32 =>
opW (storeTo 36 t32 t30 H17) fun u_1 H21 =>
opP ((binC P .add 3 true).f (nth l 5) (.int .i64 1)) fun t54 =>
N [(nth l 0), (nth l 1), (nth l 2), (nth l 3), (nth l 4), t54] H21) (
opP ((binC P .eql 3 true).f t24 (.int .i64 2)) fun t34 =>
wIf t34 (
opP (offPtr 2 t7) fun t35 =>
opW (loadOne t35 H10) fun t36 H26 =>
opP (offPtr 72 (nth l 0)) fun t37 =>
opW (storeTo 1 t37 t36 H26) fun u_2 H29 =>
opP ((binC P .add 3 true).f (nth l 5) (.int .i64 1)) fun t54_1 =>
N [(nth l 0), (nth l 1), (nth l 2), (nth l 3), (nth l 4), t54_1] H29) (
opP ((binC P .eql 3 true).f t24 (.int .i64 3)) fun t39 =>
wIf t39 (
opP (offPtr 2 t7) fun t40 =>
opW (loadOne t40 H10) fun t41 H34 =>
opP (offPtr 73 (nth l 0)) fun t42 =>
opW (storeTo 1 t42 t41 H34) fun u_3 H37 =>
opP ((binC P .add 3 true).f (nth l 5) (.int .i64 1)) fun t54_2 =>
N [(nth l 0), (nth l 1), (nth l 2), (nth l 3), (nth l 4), t54_2] H37) (
opP ((binC P .eql 3 true).f t24 (.int .i64 4)) fun t44 =>
wIf t44 (
opP (offPtr 39 t7) fun t45 =>
opW (loadOne t45 H10) fun t46 H42 =>
opP (offPtr 74 (nth l 0)) fun t47 =>
opW (loadOne t47 H42) fun t48 H45 =>
opP ((binC P .lss 30 false).f t46 t48) fun t49 =>
wIf t49 (
opP ((buildC P 37).f []) fun t50 =>
opW (storeTo 75 (nth l 1) t50 H45) fun u_4 H49 =>
Qr [(nth l 0), (nth l 1), (.int .i64 111)] H49) (
opP (offPtr 39 t7) fun t51 =>
opW (loadOne t51 H45) fun t52 H52 =>
opP (offPtr 74 (nth l 0)) fun t53 =>
opW (storeTo 1 t53 t52 H52) fun u_5 H55 =>
opP ((binC P .add 3 true).f (nth l 5) (.int .i64 1)) fun t54_3 =>
N [(nth l 0), (nth l 1), (nth l 2), (nth l 3), (nth l 4), t54_3] H55)) (
opP ((binC P .add 3 true).f (nth l 5) (.int .i64 1)) fun t54_4 =>
N [(nth l 0), (nth l 1), (nth l 2), (nth l 3), (nth l 4), t54_4] H10))))) (
Qx 0 [(nth l 0), (nth l 1), (nth l 2)] H)
theorem table_Apply_L0_eq (l : List Value) (H : Heap) (N : List Value → Heap → Prop) (Qx : Nat → List Value → Heap → Prop) (Qr : List Value → Heap → Prop) : vcC P true 56 table_Apply_P0 (live table_Apply_P0 0 52) 52 (envOf (bits 56 (live table_Apply_P0 0 52)) l) H (loopQ 56 table_Apply_P0 52 N Qx Qr) = table_Apply_L0 l H N Qx Qr := by kernel_rfl
theorem table_Apply_L0_ind (I : Nat → List Value → Heap → Prop) (Qx : Nat → List Value → Heap → Prop) (Qr : List Value → Heap → Prop) (hs : ∀ k l H, I k l H → table_Apply_L0 l H (fun l H => ∃ k', k' < k ∧ I k' l H) Qx Qr) (k : Nat) (l : List Value) (H : Heap) (h : I k l H) : wLoop P true 56 table_Apply_P0 52 l H Qx Qr :=
  loop_ind (by kernel_rfl) I (fun k l H h => (table_Apply_L0_eq l H _ Qx Qr).mpr (hs k l H h)) k l H h
def table_Apply (t0 t1 : Value) (H : Heap) (K : Value → Heap → Prop) : Prop :=
wNew (cellsL t0) H fun t2 H1 =>
wNew (zc P 37) H1 fun t4 H3 =>
wJoin (fun J =>
opW (loadAgg 75 t2 H3) fun t8 H6 =>
wCall P n_table_Right [t8] H6 fun t9 H8 =>
opP (unA .not t9) fun t10 =>
wIf t10 (
opP (pickA t10 (.bool true) undef) fun t15 =>
J [t1, t2, t4, (.int .i64 0), t15] H8) (
wCall P n_table_transaction [t1] H8 fun t13 H12 =>
opP (unA .not t13) fun t14 =>
opP (pickA t10 (.bool true) t14) fun t15_1 =>
J [t1, t2, t4, (.int .i64 0), t15_1] H12)) (fun l H16 =>
wIf (nth l 4) (
opP ((buildC P 37).f []) fun t16 =>
opW (storeTo 75 (nth l 2) t16 H16) fun u H19 =>
opW (loadAgg 75 (nth l 2) H19) fun r _ =>
K (.tuple [r, (.int .i64 111)].toArray) H19) (
opW (lenSl (nth l 0) H16) fun t18 H22 =>
wLoop P true 56 table_Apply_P0 52 [(nth l 1), (nth l 2), (nth l 3), (nth l 0), t18, (.int .i64 0)] H22 (fun id l_1 H24 =>
cond (Nat.beq id 0) (
opW (loadAgg 75 (nth l_1 0) H24) fun t55 H26 =>
opW (storeTo 75 (nth l_1 1) t55 H26) fun u_1 H28 =>
opW (loadAgg 75 (nth l_1 1) H28) fun r_1 _ =>
K (.tuple [r_1, (.int .i64 0)].toArray) H28) (
False)) (fun l_1 H24 =>
opW (loadAgg 75 (nth l_1 1) H24) fun r_2 _ =>
K (.tuple [r_2, (nth l_1 2)].toArray) H24)))
theorem table_Apply_eq (t0 t1 : Value) (H : Heap) (K : Value → Heap → Prop) : vcF P n_table_Apply [t0, t1] H K = table_Apply t0 t1 H K := by kernel_rfl
theorem table_Apply_ok {t0 t1 : Value} {H : Heap} {K : Value → Heap → Prop} (h : table_Apply t0 t1 H K) : wCall P n_table_Apply [t0, t1] H K := wCall_of_vcF rfl ((table_Apply_eq t0 t1 H K).mpr h)

/-! bootjack/table.Bytes -/
def table_Bytes (t0 : Value) (H : Heap) (K : Value → Heap → Prop) : Prop :=
wNew (cellsL t0) H fun t1 H1 =>
opW (loadAgg 75 t1 H1) fun t4 H3 =>
wCall P n_table_Right [t4] H3 fun t5 H5 =>
opP (unA .not t5) fun t6 =>
wIf t6 (
K (.slice none 0 0) H5) (
opP (offPtr 0 t1) fun t7 =>
opP (idxPtr 2 36 t7 (.int .i64 0)) fun t8 =>
opW (loadAgg 36 t8 H5) fun t9 H10 =>
wCall P n_slot_Bytes [t9] H10 fun t10 H12 =>
opP (offPtr 0 t1) fun t11 =>
opP (idxPtr 2 36 t11 (.int .i64 1)) fun t12 =>
opW (loadAgg 36 t12 H12) fun t13 H16 =>
cSame (sameB H10 H12) (idsOf [t12]) ∧ (wCall P n_slot_Bytes [t13] H16 fun t14 H18 =>
opW ((buildSliceC P 65 1).f [(0, t14)] H18) fun t15 H20 =>
wCall P n_code_Raw [t10, t15] H20 fun t16 H22 =>
opP (offPtr 72 t1) fun t18 =>
opW (loadOne t18 H22) fun t19 H25 =>
opW (cvInt .u64 t19 H25) fun t20 H27 =>
wCall P n_code_Fixed [t16, t20, (.int .i64 1)] H27 fun t21 H29 =>
opP (offPtr 73 t1) fun t22 =>
opW (loadOne t22 H29) fun t23 H32 =>
cSame (sameB H27 H29) (idsOf [t22]) ∧ (opP ((binC P .sub 3 true).f t23 (.int .i64 (-1))) fun t24 =>
opW (cvInt .u64 t24 H32) fun t25 H35 =>
wCall P n_code_Fixed [t21, t25, (.int .i64 1)] H35 fun t26 H37 =>
opP (offPtr 74 t1) fun t28 =>
opW (loadOne t28 H37) fun t29 H40 =>
wCall P n_code_Fixed [t26, t29, (.int .i64 8)] H40 fun t30 H42 =>
K t30 H42)))
theorem table_Bytes_eq (t0 : Value) (H : Heap) (K : Value → Heap → Prop) : vcF P n_table_Bytes [t0] H K = table_Bytes t0 H K := by kernel_rfl
theorem table_Bytes_ok {t0 : Value} {H : Heap} {K : Value → Heap → Prop} (h : table_Bytes t0 H K) : wCall P n_table_Bytes [t0] H K := wCall_of_vcF rfl ((table_Bytes_eq t0 H K).mpr h)

/-! bootjack/bootjackref11.Apply -/
noncomputable abbrev ref11_Apply_P0 : Code := loopAt P n_ref11_Apply 0
/-- loop 0: goes on from the slots [2, 4, 5, 17, 18, 19]; leaves [2, 4, 5] -/
def ref11_Apply_L0 (l : List Value) (H : Heap) (N : List Value → Heap → Prop) (Qx : Nat → List Value → Heap → Prop) (Qr : List Value → Heap → Prop) : Prop :=
opP ((binC P .lss 3 false).f (nth l 5) (nth l 4)) fun t20 =>
wIf t20 (
opP (idxSl 40 (nth l 3) (nth l 5)) fun t21 =>
opW (loadAgg 40 t21 H) fun t22 H3 =>
wNew (zc P 41) H3 fun t7 H5 =>
opW (storeTo 40 t7 t22 H5) fun u H7 =>
wJoin (fun J =>
opP (offPtr 0 t7) fun t23 =>
opW (loadOne t23 H7) fun t24 H11 =>
opP ((binC P .eql 3 true).f t24 (.int .i64 1)) fun t25 =>
wIf t25 (
opP (offPtr 1 t7) fun t26 =>
opW (loadOne t26 H11) fun t27 H15 =>
opP (offPtr 3 t7) fun t28 =>
opW (loadAgg 36 t28 H15) fun t29 H18 =>
opP (offPtr 0 (nth l 0)) fun t30 =>
opP (idxPtr 2 36 t30 t27) fun t31 =>
opW (storeTo 36 t31 t29 H18) fun u_1 H22 =>
J [(nth l 0), (nth l 1), (nth l 2), t7, (nth l 3), (nth l 4), (nth l 5)] H22) (
J [(nth l 0), (nth l 1), (nth l 2), t7, (nth l 3), (nth l 4), (nth l 5)] H11)) (fun l_1 H24 =>
wJoin (fun J_1 =>
opP (offPtr 0 (nth l_1 3)) fun t32 =>
opW (loadOne t32 H24) fun t33 H28 =>
opP ((binC P .eql 3 true).f t33 (.int .i64 2)) fun t34 =>
wIf t34 (
opP (offPtr 2 (nth l_1 3)) fun t35 =>
opW (loadOne t35 H28) fun t36 H32 =>
opP (offPtr 72 (nth l_1 0)) fun t37 =>
opW (storeTo 1 t37 t36 H32) fun u_2 H35 =>
J_1 [(nth l_1 0), (nth l_1 1), (nth l_1 2), (nth l_1 3), (nth l_1 4), (nth l_1 5), (nth l_1 6)] H35) (
J_1 [(nth l_1 0), (nth l_1 1), (nth l_1 2), (nth l_1 3), (nth l_1 4), (nth l_1 5), (nth l_1 6)] H28)) (fun l_2 H37 =>
wJoin (fun J_2 =>
opP (offPtr 0 (nth l_2 3)) fun t38 =>
opW (loadOne t38 H37) fun t39 H41 =>
opP ((binC P .eql 3 true).f t39 (.int .i64 3)) fun t40 =>
wIf t40 (
opP (offPtr 2 (nth l_2 3)) fun t41 =>
opW (loadOne t41 H41) fun t42 H45 =>
opP (offPtr 73 (nth l_2 0)) fun t43 =>
opW (storeTo 1 t43 t42 H45) fun u_3 H48 =>
J_2 [(nth l_2 0), (nth l_2 1), (nth l_2 2), (nth l_2 3), (nth l_2 4), (nth l_2 5), (nth l_2 6)] H48) (
J_2 [(nth l_2 0), (nth l_2 1), (nth l_2 2), (nth l_2 3), (nth l_2 4), (nth l_2 5), (nth l_2 6)] H41)) (fun l_3 H50 =>
opP (offPtr 0 (nth l_3 3)) fun t44 =>
opW (loadOne t44 H50) fun t45 H53 =>
opP ((binC P .eql 3 true).f t45 (.int .i64 4)) fun t46 =>
wIf t46 (
opP (offPtr 39 (nth l_3 3)) fun t47 =>
opW (loadOne t47 H53) fun t48 H57 =>
opP (offPtr 74 (nth l_3 0)) fun t49 =>
opW (loadOne t49 H57) fun t50 H60 =>
opP ((binC P .lss 30 false).f t48 t50) fun t51 =>
wIf t51 (
opP ((buildC P 37).f []) fun t52 =>
opW (storeTo 75 (nth l_3 1) t52 H60) fun u_4 H64 =>
Qr [(nth l_3 0), (nth l_3 1), (.int .i64 111)] H64) (
opP (offPtr 39 (nth l_3 3)) fun t53 =>
opW (loadOne t53 H60) fun t54 H67 =>
opP (offPtr 74 (nth l_3 0)) fun t55 =>
opW (storeTo 1 t55 t54 H67) fun u_5 H70 =>
opP ((binC P .add 3 true).f (nth l_3 6) (.int .i64 1)) fun t56 =>
N [(nth l_3 0), (nth l_3 1), (nth l_3 2), (nth l_3 4), (nth l_3 5), t56] H70)) (
opP ((binC P .add 3 true).f (nth l_3 6) (.int .i64 1)) fun t56_1 =>
N [(nth l_3 0), (nth l_3 1), (nth l_3 2), (nth l_3 4), (nth l_3 5), t56_1] H53))))) (
Qx 0 [(nth l 0), (nth l 1), (nth l 2)] H)
theorem ref11_Apply_L0_eq (l : List Value) (H : Heap) (N : List Value → Heap → Prop) (Qx : Nat → List Value → Heap → Prop) (Qr : List Value → Heap → Prop) : vcC P true 58 ref11_Apply_P0 (live ref11_Apply_P0 0 52) 52 (envOf (bits 58 (live ref11_Apply_P0 0 52)) l) H (loopQ 58 ref11_Apply_P0 52 N Qx Qr) = ref11_Apply_L0 l H N Qx Qr := by kernel_rfl
theorem ref11_Apply_L0_ind (I : Nat → List Value → Heap → Prop) (Qx : Nat → List Value → Heap → Prop) (Qr : List Value → Heap → Prop) (hs : ∀ k l H, I k l H → ref11_Apply_L0 l H (fun l H => ∃ k', k' < k ∧ I k' l H) Qx Qr) (k : Nat) (l : List Value) (H : Heap) (h : I k l H) : wLoop P true 58 ref11_Apply_P0 52 l H Qx Qr :=
  loop_ind (by kernel_rfl) I (fun k l H h => (ref11_Apply_L0_eq l H _ Qx Qr).mpr (hs k l H h)) k l H h
def ref11_Apply (t0 t1 : Value) (H : Heap) (K : Value → Heap → Prop) : Prop :=
wNew (cellsL t0) H fun t2 H1 =>
wNew (zc P 37) H1 fun t4 H3 =>
wJoin (fun J =>
opW (loadAgg 75 t2 H3) fun t8 H6 =>
wCall P n_ref11_Right [t8] H6 fun t9 H8 =>
opP (unA .not t9) fun t10 =>
wIf t10 (
opP (pickA t10 (.bool true) undef) fun t15 =>
J [t1, t2, t4, (.int .i64 0), t15] H8) (
wCall P n_ref11_All [t1] H8 fun t13 H12 =>
opP (unA .not t13) fun t14 =>
opP (pickA t10 (.bool true) t14) fun t15_1 =>
J [t1, t2, t4, (.int .i64 0), t15_1] H12)) (fun l H16 =>
wIf (nth l 4) (
opP ((buildC P 37).f []) fun t16 =>
opW (storeTo 75 (nth l 2) t16 H16) fun u H19 =>
opW (loadAgg 75 (nth l 2) H19) fun r _ =>
K (.tuple [r, (.int .i64 111)].toArray) H19) (
opW (lenSl (nth l 0) H16) fun t18 H22 =>
wLoop P true 58 ref11_Apply_P0 52 [(nth l 1), (nth l 2), (nth l 3), (nth l 0), t18, (.int .i64 0)] H22 (fun id l_1 H24 =>
cond (Nat.beq id 0) (
opW (loadAgg 75 (nth l_1 0) H24) fun t57 H26 =>
opW (storeTo 75 (nth l_1 1) t57 H26) fun u_1 H28 =>
opW (loadAgg 75 (nth l_1 1) H28) fun r_1 _ =>
K (.tuple [r_1, (.int .i64 0)].toArray) H28) (
False)) (fun l_1 H24 =>
opW (loadAgg 75 (nth l_1 1) H24) fun r_2 _ =>
K (.tuple [r_2, (nth l_1 2)].toArray) H24)))
theorem ref11_Apply_eq (t0 t1 : Value) (H : Heap) (K : Value → Heap → Prop) : vcF P n_ref11_Apply [t0, t1] H K = ref11_Apply t0 t1 H K := by kernel_rfl
theorem ref11_Apply_ok {t0 t1 : Value} {H : Heap} {K : Value → Heap → Prop} (h : ref11_Apply t0 t1 H K) : wCall P n_ref11_Apply [t0, t1] H K := wCall_of_vcF rfl ((ref11_Apply_eq t0 t1 H K).mpr h)

/-! bootjack/table.Right -/
def table_Right (t0 : Value) (H : Heap) (K : Value → Heap → Prop) : Prop :=
wNew (cellsL t0) H fun t1 H1 =>
opP (offPtr 0 t1) fun t3 =>
opP (idxPtr 2 36 t3 (.int .i64 0)) fun t4 =>
opW (loadAgg 36 t4 H1) fun t5 H5 =>
wCall P n_slot_Right [t5] H5 fun t6 H7 =>
wIf t6 (
opP (offPtr 0 t1) fun t8 =>
opP (idxPtr 2 36 t8 (.int .i64 1)) fun t9 =>
opW (loadAgg 36 t9 H7) fun t10 H11 =>
wCall P n_slot_Right [t10] H11 fun t11 H13 =>
opP (pickA t6 t11 (.bool false)) fun t12 =>
wIf t12 (
opP (offPtr 72 t1) fun t14 =>
opW (loadOne t14 H13) fun t15 H17 =>
wCall P n_table_index [t15] H17 fun t16 H19 =>
opP (pickA t12 t16 (.bool false)) fun t17 =>
wIf t17 (
opP (offPtr 73 t1) fun t19 =>
opW (loadOne t19 H19) fun t20 H23 =>
opP ((binC P .eql 3 true).f t20 (.int .i64 (-1))) fun t21 =>
wIf t21 (
opP (pickA t21 (.bool true) undef) fun t26 =>
opP (pickA t17 t26 (.bool false)) fun t27 =>
opP (offPtr 74 t1) fun t29 =>
opW (loadOne t29 H23) fun t30 H29 =>
opP ((binC P .leq 30 true).f t30 (.int .u64 281474976710656)) fun t31 =>
opP (pickA t27 t31 (.bool false)) fun t32 =>
K t32 H29) (
opP (offPtr 73 t1) fun t23 =>
opW (loadOne t23 H23) fun t24 H34 =>
wCall P n_table_index [t24] H34 fun t25 H36 =>
opP (pickA t21 (.bool true) t25) fun t26_1 =>
opP (pickA t17 t26_1 (.bool false)) fun t27_1 =>
wIf t27_1 (
opP (offPtr 74 t1) fun t29_1 =>
opW (loadOne t29_1 H36) fun t30_1 H41 =>
opP ((binC P .leq 30 true).f t30_1 (.int .u64 281474976710656)) fun t31_1 =>
opP (pickA t27_1 t31_1 (.bool false)) fun t32_1 =>
K t32_1 H41) (
opP (pickA t27_1 undef (.bool false)) fun t32_2 =>
K t32_2 H36))) (
opP (pickA t17 undef (.bool false)) fun t27_2 =>
opP (pickA t27_2 undef (.bool false)) fun t32_3 =>
K t32_3 H19)) (
opP (pickA t12 undef (.bool false)) fun t17_1 =>
opP (pickA t17_1 undef (.bool false)) fun t27_3 =>
opP (pickA t27_3 undef (.bool false)) fun t32_4 =>
K t32_4 H13)) (
opP (pickA t6 undef (.bool false)) fun t12_1 =>
opP (pickA t12_1 undef (.bool false)) fun t17_2 =>
opP (pickA t17_2 undef (.bool false)) fun t27_4 =>
opP (pickA t27_4 undef (.bool false)) fun t32_5 =>
K t32_5 H7)
theorem table_Right_eq (t0 : Value) (H : Heap) (K : Value → Heap → Prop) : vcF P n_table_Right [t0] H K = table_Right t0 H K := by kernel_rfl
theorem table_Right_ok {t0 : Value} {H : Heap} {K : Value → Heap → Prop} (h : table_Right t0 H K) : wCall P n_table_Right [t0] H K := wCall_of_vcF rfl ((table_Right_eq t0 H K).mpr h)

/-! bootjack/bootjackref11.Right -/
def ref11_Right (t0 : Value) (H : Heap) (K : Value → Heap → Prop) : Prop :=
wNew (cellsL t0) H fun t1 H1 =>
wJoin (fun J =>
opP (offPtr 0 t1) fun t3 =>
opP (idxPtr 2 36 t3 (.int .i64 0)) fun t4 =>
opW (loadAgg 36 t4 H1) fun t5 H6 =>
wCall P n_ref10_Right [t5] H6 fun t6 H8 =>
opP (unA .not t6) fun t7 =>
wIf t7 (
opP (pickA t7 (.bool true) undef) fun t14 =>
wIf t14 (
K (.bool false) H8) (
J [t1] H8)) (
opP (offPtr 0 t1) fun t9 =>
opP (idxPtr 2 36 t9 (.int .i64 1)) fun t10 =>
opW (loadAgg 36 t10 H8) fun t11 H14 =>
wCall P n_ref10_Right [t11] H14 fun t12 H16 =>
opP (unA .not t12) fun t13 =>
opP (pickA t7 (.bool true) t13) fun t14_1 =>
wIf t14_1 (
K (.bool false) H16) (
J [t1] H16))) (fun l H20 =>
opP (offPtr 72 (nth l 0)) fun t15 =>
opW (loadOne t15 H20) fun t16 H23 =>
opP ((binC P .geq 3 true).f t16 (.int .i64 0)) fun t17 =>
wIf t17 (
opP (offPtr 72 (nth l 0)) fun t19 =>
opW (loadOne t19 H23) fun t20 H27 =>
opP ((binC P .leq 3 true).f t20 (.int .i64 1)) fun t21 =>
opP (pickA t17 t21 (.bool false)) fun t22 =>
wIf t22 (
opP (offPtr 73 (nth l 0)) fun t24 =>
opW (loadOne t24 H27) fun t25 H32 =>
opP ((binC P .geq 3 true).f t25 (.int .i64 (-1))) fun t26 =>
opP (pickA t22 t26 (.bool false)) fun t27 =>
wIf t27 (
opP (offPtr 73 (nth l 0)) fun t29 =>
opW (loadOne t29 H32) fun t30 H37 =>
opP ((binC P .leq 3 true).f t30 (.int .i64 1)) fun t31 =>
opP (pickA t27 t31 (.bool false)) fun t32 =>
wIf t32 (
opP (offPtr 74 (nth l 0)) fun t34 =>
opW (loadOne t34 H37) fun t35 H42 =>
opP ((binC P .leq 30 true).f t35 (.int .u64 281474976710656)) fun t36 =>
opP (pickA t32 t36 (.bool false)) fun t37 =>
K t37 H42) (
opP (pickA t32 undef (.bool false)) fun t37_1 =>
K t37_1 H37)) (
opP (pickA t27 undef (.bool false)) fun t32_1 =>
opP (pickA t32_1 undef (.bool false)) fun t37_2 =>
K t37_2 H32)) (
opP (pickA t22 undef (.bool false)) fun t27_1 =>
opP (pickA t27_1 undef (.bool false)) fun t32_2 =>
opP (pickA t32_2 undef (.bool false)) fun t37_3 =>
K t37_3 H27)) (
opP (pickA t17 undef (.bool false)) fun t22_1 =>
opP (pickA t22_1 undef (.bool false)) fun t27_2 =>
opP (pickA t27_2 undef (.bool false)) fun t32_3 =>
opP (pickA t32_3 undef (.bool false)) fun t37_4 =>
K t37_4 H23))
theorem ref11_Right_eq (t0 : Value) (H : Heap) (K : Value → Heap → Prop) : vcF P n_ref11_Right [t0] H K = ref11_Right t0 H K := by kernel_rfl
theorem ref11_Right_ok {t0 : Value} {H : Heap} {K : Value → Heap → Prop} (h : ref11_Right t0 H K) : wCall P n_ref11_Right [t0] H K := wCall_of_vcF rfl ((ref11_Right_eq t0 H K).mpr h)

/-! bootjack/bootjackref11.Bytes -/
def ref11_Bytes (t0 : Value) (H : Heap) (K : Value → Heap → Prop) : Prop :=
wNew (cellsL t0) H fun t1 H1 =>
opW ((buildSliceC P 46 0).f [] H1) fun t4 H3 =>
opW (loadAgg 75 t1 H3) fun t5 H5 =>
wCall P n_ref11_Right [t5] H5 fun t6 H7 =>
opP (unA .not t6) fun t7 =>
wIf t7 (
K t4 H7) (
opP (offPtr 0 t1) fun t10 =>
opP (idxPtr 2 36 t10 (.int .i64 0)) fun t11 =>
opW (loadAgg 36 t11 H7) fun t12 H12 =>
wCall P n_ref10_Bytes [t12] H12 fun t13 H14 =>
opW (appendWith 1 1 t4 t13 H14) fun t14 H16 =>
opP (offPtr 0 t1) fun t16 =>
opP (idxPtr 2 36 t16 (.int .i64 1)) fun t17 =>
opW (loadAgg 36 t17 H16) fun t18 H20 =>
wCall P n_ref10_Bytes [t18] H20 fun t19 H22 =>
opW (appendWith 1 1 t14 t19 H22) fun t20 H24 =>
opP (offPtr 72 t1) fun t22 =>
opW (loadOne t22 H24) fun t23 H27 =>
opW (cvInt .u8 t23 H27) fun t24 H29 =>
opP (offPtr 73 t1) fun t25 =>
opW (loadOne t25 H29) fun t26 H32 =>
opP ((binC P .add 3 true).f t26 (.int .i64 1)) fun t27 =>
opW (cvInt .u8 t27 H32) fun t28 H35 =>
opW ((buildSliceC P 46 2).f [(0, t24), (1, t28)] H35) fun t29 H37 =>
opW (appendWith 1 1 t20 t29 H37) fun t30 H39 =>
opP (offPtr 74 t1) fun t32 =>
opW (loadOne t32 H39) fun t33 H42 =>
wCall P n_ref05_Fixed [t33, (.int .i64 8)] H42 fun t34 H44 =>
opW (appendWith 1 1 t30 t34 H44) fun t35 H46 =>
K t35 H46)
theorem ref11_Bytes_eq (t0 : Value) (H : Heap) (K : Value → Heap → Prop) : vcF P n_ref11_Bytes [t0] H K = ref11_Bytes t0 H K := by kernel_rfl
theorem ref11_Bytes_ok {t0 : Value} {H : Heap} {K : Value → Heap → Prop} (h : ref11_Bytes t0 H K) : wCall P n_ref11_Bytes [t0] H K := wCall_of_vcF rfl ((ref11_Bytes_eq t0 H K).mpr h)

/-! bootjack/table.Put -/
noncomputable abbrev table_Put_P0 : Code := loopAt P n_table_Put 0
/-- loop 0: goes on from the slots [2, 3, 13, 14, 15]; leaves [2, 3] -/
def table_Put_L0 (l : List Value) (H : Heap) (N : List Value → Heap → Prop) (Qx : Nat → List Value → Heap → Prop) (Qr : List Value → Heap → Prop) : Prop :=
opP ((binC P .lss 3 false).f (nth l 4) (nth l 3)) fun t16 =>
wIf t16 (
opP (idxSl 40 (nth l 2) (nth l 4)) fun t17 =>
opW (loadAgg 40 t17 H) fun t18 H3 =>
wNew (zc P 41) H3 fun t5 H5 =>
opW (storeTo 40 t5 t18 H5) fun u H7 =>
opP (offPtr 0 t5) fun t20 =>
opW (loadOne t20 H7) fun t21 H10 =>
opW (cvInt .u64 t21 H10) fun t22 H12 =>
wCall P n_code_Fixed [(nth l 1), t22, (.int .i64 1)] H12 fun t23 H14 =>
opP (offPtr 0 t5) fun t24 =>
opW (loadOne t24 H14) fun t25 H17 =>
opP ((binC P .eql 3 true).f t25 (.int .i64 1)) fun t27 =>
wIf t27 (
opP (offPtr 1 t5) fun t29 =>
opW (loadOne t29 H17) fun t30 H21 =>
opW (cvInt .u64 t30 H21) fun t31 H23 =>
wCall P n_code_Fixed [t23, t31, (.int .i64 1)] H23 fun t32 H25 =>
opP (offPtr 3 t5) fun t33 =>
opW (loadAgg 36 t33 H25) fun t34 H28 =>
cSame (sameB H23 H25) (idsOf [t33]) ∧ (wCall P n_slot_Bytes [t34] H28 fun t35 H30 =>
opW ((buildSliceC P 65 1).f [(0, t35)] H30) fun t36 H32 =>
wCall P n_code_Raw [t32, t36] H32 fun t37 H34 =>
opP ((binC P .add 3 true).f (nth l 4) (.int .i64 1)) fun t59 =>
N [(nth l 0), t37, (nth l 2), (nth l 3), t59] H34)) (
opP ((binC P .eql 3 true).f t25 (.int .i64 2)) fun t39 =>
wIf t39 (
opP (offPtr 2 t5) fun t41 =>
opW (loadOne t41 H17) fun t42 H39 =>
opW (cvInt .u64 t42 H39) fun t43 H41 =>
wCall P n_code_Fixed [t23, t43, (.int .i64 1)] H41 fun t44 H43 =>
opP ((binC P .add 3 true).f (nth l 4) (.int .i64 1)) fun t59_1 =>
N [(nth l 0), t44, (nth l 2), (nth l 3), t59_1] H43) (
opP ((binC P .eql 3 true).f t25 (.int .i64 3)) fun t46 =>
wIf t46 (
opP (offPtr 2 t5) fun t48 =>
opW (loadOne t48 H17) fun t49 H48 =>
opP ((binC P .sub 3 true).f t49 (.int .i64 (-1))) fun t50 =>
opW (cvInt .u64 t50 H48) fun t51 H51 =>
wCall P n_code_Fixed [t23, t51, (.int .i64 1)] H51 fun t52 H53 =>
opP ((binC P .add 3 true).f (nth l 4) (.int .i64 1)) fun t59_2 =>
N [(nth l 0), t52, (nth l 2), (nth l 3), t59_2] H53) (
opP ((binC P .eql 3 true).f t25 (.int .i64 4)) fun t54 =>
wIf t54 (
opP (offPtr 39 t5) fun t56 =>
opW (loadOne t56 H17) fun t57 H58 =>
wCall P n_code_Fixed [t23, t57, (.int .i64 8)] H58 fun t58 H60 =>
opP ((binC P .add 3 true).f (nth l 4) (.int .i64 1)) fun t59_3 =>
N [(nth l 0), t58, (nth l 2), (nth l 3), t59_3] H60) (
opP ((binC P .add 3 true).f (nth l 4) (.int .i64 1)) fun t59_4 =>
N [(nth l 0), t23, (nth l 2), (nth l 3), t59_4] H17))))) (
Qx 0 [(nth l 0), (nth l 1)] H)
theorem table_Put_L0_eq (l : List Value) (H : Heap) (N : List Value → Heap → Prop) (Qx : Nat → List Value → Heap → Prop) (Qr : List Value → Heap → Prop) : vcC P true 61 table_Put_P0 (live table_Put_P0 0 12) 12 (envOf (bits 61 (live table_Put_P0 0 12)) l) H (loopQ 61 table_Put_P0 12 N Qx Qr) = table_Put_L0 l H N Qx Qr := by kernel_rfl
theorem table_Put_L0_ind (I : Nat → List Value → Heap → Prop) (Qx : Nat → List Value → Heap → Prop) (Qr : List Value → Heap → Prop) (hs : ∀ k l H, I k l H → table_Put_L0 l H (fun l H => ∃ k', k' < k ∧ I k' l H) Qx Qr) (k : Nat) (l : List Value) (H : Heap) (h : I k l H) : wLoop P true 61 table_Put_P0 12 l H Qx Qr :=
  loop_ind (by kernel_rfl) I (fun k l H h => (table_Put_L0_eq l H _ Qx Qr).mpr (hs k l H h)) k l H h
def table_Put (t0 : Value) (H : Heap) (K : Value → Heap → Prop) : Prop :=
wCall P n_table_transaction [t0] H fun t7 H1 =>
opP (unA .not t7) fun t8 =>
wIf t8 (
K (.slice none 0 0) H1) (
opW (lenSl t0 H1) fun t10 H4 =>
opW (cvInt .u64 t10 H4) fun t11 H6 =>
wCall P n_code_Fixed [(.slice none 0 0), t11, (.int .i64 1)] H6 fun t12 H8 =>
opW (lenSl t0 H8) fun t14 H10 =>
wLoop P true 61 table_Put_P0 12 [(.slice none 0 0), t12, t0, t14, (.int .i64 0)] H10 (fun id l H12 =>
cond (Nat.beq id 0) (
K (nth l 1) H12) (
False)) (fun l H12 =>
K (nth l 0) H12))
theorem table_Put_eq (t0 : Value) (H : Heap) (K : Value → Heap → Prop) : vcF P n_table_Put [t0] H K = table_Put t0 H K := by kernel_rfl
theorem table_Put_ok {t0 : Value} {H : Heap} {K : Value → Heap → Prop} (h : table_Put t0 H K) : wCall P n_table_Put [t0] H K := wCall_of_vcF rfl ((table_Put_eq t0 H K).mpr h)

/-! bootjack/bootjackref11.Put -/
noncomputable abbrev ref11_Put_P0 : Code := loopAt P n_ref11_Put 0
/-- loop 0: goes on from the slots [2, 3, 17, 18, 19]; leaves [2, 3] -/
def ref11_Put_L0 (l : List Value) (H : Heap) (N : List Value → Heap → Prop) (Qx : Nat → List Value → Heap → Prop) (Qr : List Value → Heap → Prop) : Prop :=
opP ((binC P .lss 3 false).f (nth l 4) (nth l 3)) fun t20 =>
wIf t20 (
opP (idxSl 40 (nth l 2) (nth l 4)) fun t21 =>
opW (loadAgg 40 t21 H) fun t22 H3 =>
wNew (zc P 41) H3 fun t5 H5 =>
opW (storeTo 40 t5 t22 H5) fun u H7 =>
opP (offPtr 0 t5) fun t24 =>
opW (loadOne t24 H7) fun t25 H10 =>
opW (cvInt .u8 t25 H10) fun t26 H12 =>
opW ((buildSliceC P 46 1).f [(0, t26)] H12) fun t27 H14 =>
opW (appendWith 1 1 (nth l 1) t27 H14) fun t28 H16 =>
opP (offPtr 0 t5) fun t29 =>
opW (loadOne t29 H16) fun t30 H19 =>
opP ((binC P .eql 3 true).f t30 (.int .i64 1)) fun t32 =>
wIf t32 (
opP (offPtr 1 t5) fun t34 =>
opW (loadOne t34 H19) fun t35 H23 =>
opW (cvInt .u8 t35 H23) fun t36 H25 =>
opW ((buildSliceC P 46 1).f [(0, t36)] H25) fun t37 H27 =>
opW (appendWith 1 1 t28 t37 H27) fun t38 H29 =>
opP (offPtr 3 t5) fun t40 =>
opW (loadAgg 36 t40 H29) fun t41 H32 =>
wCall P n_ref10_Bytes [t41] H32 fun t42 H34 =>
opW (appendWith 1 1 t38 t42 H34) fun t43 H36 =>
opP ((binC P .add 3 true).f (nth l 4) (.int .i64 1)) fun t68 =>
N [(nth l 0), t43, (nth l 2), (nth l 3), t68] H36) (
opP ((binC P .eql 3 true).f t30 (.int .i64 2)) fun t45 =>
wIf t45 (
opP (offPtr 2 t5) fun t47 =>
opW (loadOne t47 H19) fun t48 H41 =>
opW (cvInt .u8 t48 H41) fun t49 H43 =>
opW ((buildSliceC P 46 1).f [(0, t49)] H43) fun t50 H45 =>
opW (appendWith 1 1 t28 t50 H45) fun t51 H47 =>
opP ((binC P .add 3 true).f (nth l 4) (.int .i64 1)) fun t68_1 =>
N [(nth l 0), t51, (nth l 2), (nth l 3), t68_1] H47) (
opP ((binC P .eql 3 true).f t30 (.int .i64 3)) fun t53 =>
wIf t53 (
opP (offPtr 2 t5) fun t55 =>
opW (loadOne t55 H19) fun t56 H52 =>
opP ((binC P .add 3 true).f t56 (.int .i64 1)) fun t57 =>
opW (cvInt .u8 t57 H52) fun t58 H55 =>
opW ((buildSliceC P 46 1).f [(0, t58)] H55) fun t59 H57 =>
opW (appendWith 1 1 t28 t59 H57) fun t60 H59 =>
opP ((binC P .add 3 true).f (nth l 4) (.int .i64 1)) fun t68_2 =>
N [(nth l 0), t60, (nth l 2), (nth l 3), t68_2] H59) (
opP ((binC P .eql 3 true).f t30 (.int .i64 4)) fun t62 =>
wIf t62 (
opP (offPtr 39 t5) fun t64 =>
opW (loadOne t64 H19) fun t65 H64 =>
wCall P n_ref05_Fixed [t65, (.int .i64 8)] H64 fun t66 H66 =>
opW (appendWith 1 1 t28 t66 H66) fun t67 H68 =>
opP ((binC P .add 3 true).f (nth l 4) (.int .i64 1)) fun t68_3 =>
N [(nth l 0), t67, (nth l 2), (nth l 3), t68_3] H68) (
opP ((binC P .add 3 true).f (nth l 4) (.int .i64 1)) fun t68_4 =>
N [(nth l 0), t28, (nth l 2), (nth l 3), t68_4] H19))))) (
Qx 0 [(nth l 0), (nth l 1)] H)
theorem ref11_Put_L0_eq (l : List Value) (H : Heap) (N : List Value → Heap → Prop) (Qx : Nat → List Value → Heap → Prop) (Qr : List Value → Heap → Prop) : vcC P true 70 ref11_Put_P0 (live ref11_Put_P0 0 12) 12 (envOf (bits 70 (live ref11_Put_P0 0 12)) l) H (loopQ 70 ref11_Put_P0 12 N Qx Qr) = ref11_Put_L0 l H N Qx Qr := by kernel_rfl
theorem ref11_Put_L0_ind (I : Nat → List Value → Heap → Prop) (Qx : Nat → List Value → Heap → Prop) (Qr : List Value → Heap → Prop) (hs : ∀ k l H, I k l H → ref11_Put_L0 l H (fun l H => ∃ k', k' < k ∧ I k' l H) Qx Qr) (k : Nat) (l : List Value) (H : Heap) (h : I k l H) : wLoop P true 70 ref11_Put_P0 12 l H Qx Qr :=
  loop_ind (by kernel_rfl) I (fun k l H h => (ref11_Put_L0_eq l H _ Qx Qr).mpr (hs k l H h)) k l H h
def ref11_Put (t0 : Value) (H : Heap) (K : Value → Heap → Prop) : Prop :=
opW ((buildSliceC P 46 0).f [] H) fun t6 H1 =>
wCall P n_ref11_All [t0] H1 fun t8 H3 =>
opP (unA .not t8) fun t9 =>
wIf t9 (
K t6 H3) (
opW (lenSl t0 H3) fun t13 H6 =>
opW (cvInt .u8 t13 H6) fun t14 H8 =>
opW ((buildSliceC P 46 1).f [(0, t14)] H8) fun t15 H10 =>
opW (appendWith 1 1 t6 t15 H10) fun t16 H12 =>
opW (lenSl t0 H12) fun t18 H14 =>
wLoop P true 70 ref11_Put_P0 12 [(.slice none 0 0), t16, t0, t18, (.int .i64 0)] H14 (fun id l H16 =>
cond (Nat.beq id 0) (
K (nth l 1) H16) (
False)) (fun l H16 =>
K (nth l 0) H16))
theorem ref11_Put_eq (t0 : Value) (H : Heap) (K : Value → Heap → Prop) : vcF P n_ref11_Put [t0] H K = ref11_Put t0 H K := by kernel_rfl
theorem ref11_Put_ok {t0 : Value} {H : Heap} {K : Value → Heap → Prop} (h : ref11_Put t0 H K) : wCall P n_ref11_Put [t0] H K := wCall_of_vcF rfl ((ref11_Put_eq t0 H K).mpr h)

/-! bootjack/bootjackref10.Right -/
def ref10_Right (t0 : Value) (H : Heap) (K : Value → Heap → Prop) : Prop :=
wNew (cellsL t0) H fun t1 H1 =>
wJoin (fun J =>
opP (offPtr 1 t1) fun t5 =>
opW (loadOne t5 H1) fun t6 H5 =>
opP ((binC P .eql 3 true).f t6 (.int .i64 0)) fun t7 =>
wIf t7 (
opP (offPtr 2 t1) fun t9 =>
opW (loadOne t9 H5) fun t10 H9 =>
opP ((binC P .eql 30 true).f t10 (.int .u64 0)) fun t11 =>
opP (pickA t7 t11 (.bool false)) fun t12 =>
wIf t12 (
opP (offPtr 3 t1) fun t14 =>
opW (loadOne t14 H9) fun t15 H14 =>
opP ((binC P .eql 3 true).f t15 (.int .i64 0)) fun t16 =>
opP (pickA t12 t16 (.bool false)) fun t17 =>
wIf t17 (
opP (offPtr 4 t1) fun t19 =>
opW (loadAgg 32 t19 H14) fun t20 H19 =>
opP ((buildC P 32).f []) fun t21 =>
opP ((binC P .eql 32 false).f t20 t21) fun t22 =>
opP (pickA t17 t22 (.bool false)) fun t23 =>
J [t1, t23] H19) (
opP (pickA t17 undef (.bool false)) fun t23_1 =>
J [t1, t23_1] H14)) (
opP (pickA t12 undef (.bool false)) fun t17_1 =>
opP (pickA t17_1 undef (.bool false)) fun t23_2 =>
J [t1, t23_2] H9)) (
opP (pickA t7 undef (.bool false)) fun t12_1 =>
opP (pickA t12_1 undef (.bool false)) fun t17_2 =>
opP (pickA t17_2 undef (.bool false)) fun t23_3 =>
J [t1, t23_3] H5)) (fun l H30 =>
wJoin (fun J_1 =>
opP (offPtr 2 (nth l 0)) fun t24 =>
opW (loadOne t24 H30) fun t25 H34 =>
opP ((binC P .geq 30 true).f t25 (.int .u64 1)) fun t26 =>
wIf t26 (
opP (offPtr 2 (nth l 0)) fun t28 =>
opW (loadOne t28 H34) fun t29 H38 =>
opP ((binC P .leq 30 true).f t29 (.int .u64 281474976710656)) fun t30 =>
opP (pickA t26 t30 (.bool false)) fun t31 =>
wIf t31 (
opP (offPtr 3 (nth l 0)) fun t33 =>
opW (loadOne t33 H38) fun t34 H43 =>
opP ((binC P .geq 3 true).f t34 (.int .i64 1)) fun t35 =>
opP (pickA t31 t35 (.bool false)) fun t36 =>
wIf t36 (
opP (offPtr 3 (nth l 0)) fun t38 =>
opW (loadOne t38 H43) fun t39 H48 =>
opP ((binC P .leq 3 true).f t39 (.int .i64 65536)) fun t40 =>
opP (pickA t36 t40 (.bool false)) fun t41 =>
J_1 [(nth l 0), (nth l 1), t41] H48) (
opP (pickA t36 undef (.bool false)) fun t41_1 =>
J_1 [(nth l 0), (nth l 1), t41_1] H43)) (
opP (pickA t31 undef (.bool false)) fun t36_1 =>
opP (pickA t36_1 undef (.bool false)) fun t41_2 =>
J_1 [(nth l 0), (nth l 1), t41_2] H38)) (
opP (pickA t26 undef (.bool false)) fun t31_1 =>
opP (pickA t31_1 undef (.bool false)) fun t36_2 =>
opP (pickA t36_2 undef (.bool false)) fun t41_3 =>
J_1 [(nth l 0), (nth l 1), t41_3] H34)) (fun l_1 H58 =>
wJoin (fun J_2 =>
opP (offPtr 0 (nth l_1 0)) fun t42 =>
opW (loadOne t42 H58) fun t43 H62 =>
opP ((binC P .eql 3 true).f t43 (.int .i64 0)) fun t44 =>
wIf t44 (
opP (pickA t44 (.bool true) undef) fun t49 =>
opP (pickA t49 (.bool true) undef) fun t54 =>
J_2 [(nth l_1 0), (nth l_1 1), (nth l_1 2), t54] H62) (
opP (offPtr 0 (nth l_1 0)) fun t46 =>
opW (loadOne t46 H62) fun t47 H68 =>
opP ((binC P .eql 3 true).f t47 (.int .i64 1)) fun t48 =>
opP (pickA t44 (.bool true) t48) fun t49_1 =>
wIf t49_1 (
opP (pickA t49_1 (.bool true) undef) fun t54_1 =>
J_2 [(nth l_1 0), (nth l_1 1), (nth l_1 2), t54_1] H68) (
opP (offPtr 0 (nth l_1 0)) fun t51 =>
opW (loadOne t51 H68) fun t52 H74 =>
opP ((binC P .eql 3 true).f t52 (.int .i64 4)) fun t53 =>
opP (pickA t49_1 (.bool true) t53) fun t54_2 =>
J_2 [(nth l_1 0), (nth l_1 1), (nth l_1 2), t54_2] H74))) (fun l_2 H78 =>
wIf (nth l_2 3) (
K (nth l_2 1) H78) (
opP (offPtr 0 (nth l_2 0)) fun t56 =>
opW (loadOne t56 H78) fun t57 H81 =>
opP ((binC P .eql 3 true).f t57 (.int .i64 2)) fun t58 =>
wIf t58 (
wIf (nth l_2 2) (
opP (offPtr 1 (nth l_2 0)) fun t61 =>
opW (loadOne t61 H81) fun t62 H85 =>
opP ((binC P .geq 3 true).f t62 (.int .i64 0)) fun t63 =>
opP (pickA (nth l_2 2) t63 (.bool false)) fun t64 =>
wIf t64 (
opP (offPtr 1 (nth l_2 0)) fun t66 =>
opW (loadOne t66 H85) fun t67 H90 =>
opP ((binC P .leq 3 true).f t67 (.int .i64 7)) fun t68 =>
opP (pickA t64 t68 (.bool false)) fun t69 =>
K t69 H90) (
opP (pickA t64 undef (.bool false)) fun t69_1 =>
K t69_1 H85)) (
opP (pickA (nth l_2 2) undef (.bool false)) fun t64_1 =>
opP (pickA t64_1 undef (.bool false)) fun t69_2 =>
K t69_2 H81)) (
opP (offPtr 0 (nth l_2 0)) fun t70 =>
opW (loadOne t70 H81) fun t71 H98 =>
opP ((binC P .eql 3 true).f t71 (.int .i64 3)) fun t72 =>
wIf t72 (
opP (pickA t72 (nth l_2 2) (.bool false)) fun t75 =>
wIf t75 (
opP (offPtr 1 (nth l_2 0)) fun t77 =>
opW (loadOne t77 H98) fun t78 H103 =>
opP ((binC P .eql 3 true).f t78 (.int .i64 0)) fun t79 =>
opP (pickA t75 t79 (.bool false)) fun t80 =>
K t80 H103) (
opP (pickA t75 undef (.bool false)) fun t80_1 =>
K t80_1 H98)) (
opP (pickA t72 undef (.bool false)) fun t75_1 =>
opP (pickA t75_1 undef (.bool false)) fun t80_2 =>
K t80_2 H98))))))
theorem ref10_Right_eq (t0 : Value) (H : Heap) (K : Value → Heap → Prop) : vcF P n_ref10_Right [t0] H K = ref10_Right t0 H K := by kernel_rfl
theorem ref10_Right_ok {t0 : Value} {H : Heap} {K : Value → Heap → Prop} (h : ref10_Right t0 H K) : wCall P n_ref10_Right [t0] H K := wCall_of_vcF rfl ((ref10_Right_eq t0 H K).mpr h)

/-! bootjack/table.transaction -/
noncomputable abbrev table_transaction_P0 : Code := loopAt P n_table_transaction 0
/-- loop 0: goes on from the slots [2, 8, 9, 10]; leaves [2] -/
def table_transaction_L0 (l : List Value) (H : Heap) (N : List Value → Heap → Prop) (Qx : Nat → List Value → Heap → Prop) (Qr : List Value → Heap → Prop) : Prop :=
opP ((binC P .lss 3 false).f (nth l 3) (nth l 2)) fun t11 =>
wIf t11 (
opP (idxSl 40 (nth l 1) (nth l 3)) fun t12 =>
opW (loadAgg 40 t12 H) fun t13 H3 =>
wNew (zc P 41) H3 fun t4 H5 =>
opW (storeTo 40 t4 t13 H5) fun u H7 =>
opW (loadAgg 40 t4 H7) fun t14 H9 =>
wCall P n_table_right [t14] H9 fun t15 H11 =>
opP (unA .not t15) fun t16 =>
wIf t16 (
Qr [(.bool false)] H11) (
opP ((binC P .add 3 true).f (nth l 3) (.int .i64 1)) fun t17 =>
N [(nth l 0), (nth l 1), (nth l 2), t17] H11)) (
Qx 0 [(nth l 0)] H)
theorem table_transaction_L0_eq (l : List Value) (H : Heap) (N : List Value → Heap → Prop) (Qx : Nat → List Value → Heap → Prop) (Qr : List Value → Heap → Prop) : vcC P true 18 table_transaction_P0 (live table_transaction_P0 0 4) 4 (envOf (bits 18 (live table_transaction_P0 0 4)) l) H (loopQ 18 table_transaction_P0 4 N Qx Qr) = table_transaction_L0 l H N Qx Qr := by kernel_rfl
theorem table_transaction_L0_ind (I : Nat → List Value → Heap → Prop) (Qx : Nat → List Value → Heap → Prop) (Qr : List Value → Heap → Prop) (hs : ∀ k l H, I k l H → table_transaction_L0 l H (fun l H => ∃ k', k' < k ∧ I k' l H) Qx Qr) (k : Nat) (l : List Value) (H : Heap) (h : I k l H) : wLoop P true 18 table_transaction_P0 4 l H Qx Qr :=
  loop_ind (by kernel_rfl) I (fun k l H h => (table_transaction_L0_eq l H _ Qx Qr).mpr (hs k l H h)) k l H h
def table_transaction (t0 : Value) (H : Heap) (K : Value → Heap → Prop) : Prop :=
opW (lenSl t0 H) fun t6 H1 =>
opP ((binC P .gtr 3 true).f t6 (.int .i64 8)) fun t7 =>
wIf t7 (
K (.bool false) H1) (
opW (lenSl t0 H1) fun t9 H4 =>
wLoop P true 18 table_transaction_P0 4 [(.bool false), t0, t9, (.int .i64 0)] H4 (fun id l H6 =>
cond (Nat.beq id 0) (
K (.bool true) H6) (
False)) (fun l H6 =>
K (nth l 0) H6))
theorem table_transaction_eq (t0 : Value) (H : Heap) (K : Value → Heap → Prop) : vcF P n_table_transaction [t0] H K = table_transaction t0 H K := by kernel_rfl
theorem table_transaction_ok {t0 : Value} {H : Heap} {K : Value → Heap → Prop} (h : table_transaction t0 H K) : wCall P n_table_transaction [t0] H K := wCall_of_vcF rfl ((table_transaction_eq t0 H K).mpr h)

/-! bootjack/code.Raw -/
def code_Raw (t0 t1 : Value) (H : Heap) (K : Value → Heap → Prop) : Prop :=
wCall P n_slices_Concat_byte_byte [t1] H fun t7 H1 =>
opW ((buildSliceC P 65 2).f [(0, t0), (1, t7)] H1) fun t8 H3 =>
wCall P n_slices_Concat_byte_byte [t8] H3 fun t9 H5 =>
K t9 H5
theorem code_Raw_eq (t0 t1 : Value) (H : Heap) (K : Value → Heap → Prop) : vcF P n_code_Raw [t0, t1] H K = code_Raw t0 t1 H K := by kernel_rfl
theorem code_Raw_ok {t0 t1 : Value} {H : Heap} {K : Value → Heap → Prop} (h : code_Raw t0 t1 H K) : wCall P n_code_Raw [t0, t1] H K := wCall_of_vcF rfl ((code_Raw_eq t0 t1 H K).mpr h)

/-! bootjack/slot.Bytes -/
def slot_Bytes (t0 : Value) (H : Heap) (K : Value → Heap → Prop) : Prop :=
wNew (cellsL t0) H fun t1 H1 =>
opW (loadAgg 36 t1 H1) fun t4 H3 =>
wCall P n_slot_Right [t4] H3 fun t5 H5 =>
opP (unA .not t5) fun t6 =>
wIf t6 (
K (.slice none 0 0) H5) (
opP (offPtr 0 t1) fun t7 =>
opW (loadOne t7 H5) fun t8 H9 =>
opW (cvInt .u64 t8 H9) fun t9 H11 =>
wCall P n_code_Fixed [(.slice none 0 0), t9, (.int .i64 1)] H11 fun t10 H13 =>
opP (offPtr 1 t1) fun t11 =>
opW (loadOne t11 H13) fun t12 H16 =>
cSame (sameB H11 H13) (idsOf [t11]) ∧ (opW (cvInt .u64 t12 H16) fun t13 H18 =>
wCall P n_code_Fixed [t10, t13, (.int .i64 1)] H18 fun t14 H20 =>
opP (offPtr 2 t1) fun t16 =>
opW (loadOne t16 H20) fun t17 H23 =>
wCall P n_code_Fixed [t14, t17, (.int .i64 8)] H23 fun t18 H25 =>
opP (offPtr 3 t1) fun t19 =>
opW (loadOne t19 H25) fun t20 H28 =>
cSame (sameB H23 H25) (idsOf [t19]) ∧ (opW (cvInt .u64 t20 H28) fun t21 H30 =>
wCall P n_code_Fixed [t18, t21, (.int .i64 4)] H30 fun t22 H32 =>
opP (offPtr 4 t1) fun t24 =>
opP (sliceArr 32 1 t24 none none none H32) fun t25 =>
opW ((buildSliceC P 65 1).f [(0, t25)] H32) fun t26 H36 =>
wCall P n_code_Raw [t22, t26] H36 fun t27 H38 =>
K t27 H38)))
theorem slot_Bytes_eq (t0 : Value) (H : Heap) (K : Value → Heap → Prop) : vcF P n_slot_Bytes [t0] H K = slot_Bytes t0 H K := by kernel_rfl
theorem slot_Bytes_ok {t0 : Value} {H : Heap} {K : Value → Heap → Prop} (h : slot_Bytes t0 H K) : wCall P n_slot_Bytes [t0] H K := wCall_of_vcF rfl ((slot_Bytes_eq t0 H K).mpr h)

/-! bootjack/code.Fixed -/
noncomputable abbrev code_Fixed_P0 : Code := loopAt P n_code_Fixed 0
/-- loop 0: goes on from the slots [1, 6, 7, 11, 12]; leaves [6, 7] -/
def code_Fixed_L0 (l : List Value) (H : Heap) (N : List Value → Heap → Prop) (Qx : Nat → List Value → Heap → Prop) (Qr : List Value → Heap → Prop) : Prop :=
opP ((binC P .lss 3 false).f (nth l 4) (nth l 3)) fun t13 =>
wIf t13 (
opW (cvInt .u8 (nth l 0) H) fun t16 H2 =>
opW ((buildSliceC P 46 1).f [(0, t16)] H2) fun t17 H4 =>
opW (appendWith 1 1 (nth l 2) t17 H4) fun t18 H6 =>
opP ((binC P .shr 30 true).f (nth l 0) (.int .u64 8)) fun t20 =>
opP ((binC P .add 3 true).f (nth l 4) (.int .i64 1)) fun t21 =>
N [t20, (nth l 1), t18, (nth l 3), t21] H6) (
Qx 0 [(nth l 1), (nth l 2)] H)
theorem code_Fixed_L0_eq (l : List Value) (H : Heap) (N : List Value → Heap → Prop) (Qx : Nat → List Value → Heap → Prop) (Qr : List Value → Heap → Prop) : vcC P true 23 code_Fixed_P0 (live code_Fixed_P0 0 192) 192 (envOf (bits 23 (live code_Fixed_P0 0 192)) l) H (loopQ 23 code_Fixed_P0 192 N Qx Qr) = code_Fixed_L0 l H N Qx Qr := by kernel_rfl
theorem code_Fixed_L0_ind (I : Nat → List Value → Heap → Prop) (Qx : Nat → List Value → Heap → Prop) (Qr : List Value → Heap → Prop) (hs : ∀ k l H, I k l H → code_Fixed_L0 l H (fun l H => ∃ k', k' < k ∧ I k' l H) Qx Qr) (k : Nat) (l : List Value) (H : Heap) (h : I k l H) : wLoop P true 23 code_Fixed_P0 192 l H Qx Qr :=
  loop_ind (by kernel_rfl) I (fun k l H h => (code_Fixed_L0_eq l H _ Qx Qr).mpr (hs k l H h)) k l H h
def code_Fixed (t0 t1 t2 : Value) (H : Heap) (K : Value → Heap → Prop) : Prop :=
wCall P n_slices_Clone_byte_byte [t0] H fun t9 H1 =>
wCall P n_code_within [t2] H1 fun t11 H3 =>
wLoop P true 23 code_Fixed_P0 192 [t1, (.slice none 0 0), t9, t11, (.int .i64 0)] H3 (fun id l H5 =>
cond (Nat.beq id 0) (
K (nth l 1) H5) (
False)) (fun l H5 =>
K (nth l 0) H5)
theorem code_Fixed_eq (t0 t1 t2 : Value) (H : Heap) (K : Value → Heap → Prop) : vcF P n_code_Fixed [t0, t1, t2] H K = code_Fixed t0 t1 t2 H K := by kernel_rfl
theorem code_Fixed_ok {t0 t1 t2 : Value} {H : Heap} {K : Value → Heap → Prop} (h : code_Fixed t0 t1 t2 H K) : wCall P n_code_Fixed [t0, t1, t2] H K := wCall_of_vcF rfl ((code_Fixed_eq t0 t1 t2 H K).mpr h)

/-! bootjack/bootjackref11.All -/
noncomputable abbrev ref11_All_P0 : Code := loopAt P n_ref11_All 0
/-- loop 0: goes on from the slots [0, 2, 5, 6, 7]; leaves [0, 2] -/
def ref11_All_L0 (l : List Value) (H : Heap) (N : List Value → Heap → Prop) (Qx : Nat → List Value → Heap → Prop) (Qr : List Value → Heap → Prop) : Prop :=
opP ((binC P .lss 3 false).f (nth l 4) (nth l 3)) fun t8 =>
wIf t8 (
opP (idxSl 40 (nth l 2) (nth l 4)) fun t9 =>
opW (loadAgg 40 t9 H) fun t10 H3 =>
wNew (zc P 41) H3 fun t4 H5 =>
opW (storeTo 40 t4 t10 H5) fun u H7 =>
opW (loadAgg 40 t4 H7) fun t11 H9 =>
wCall P n_ref11_One [t11] H9 fun t12 H11 =>
opP (unA .not t12) fun t13 =>
wIf t13 (
Qr [(nth l 0), (.bool false)] H11) (
opP ((binC P .add 3 true).f (nth l 4) (.int .i64 1)) fun t14 =>
N [(nth l 0), (nth l 1), (nth l 2), (nth l 3), t14] H11)) (
Qx 0 [(nth l 0), (nth l 1)] H)
theorem ref11_All_L0_eq (l : List Value) (H : Heap) (N : List Value → Heap → Prop) (Qx : Nat → List Value → Heap → Prop) (Qr : List Value → Heap → Prop) : vcC P true 18 ref11_All_P0 (live ref11_All_P0 0 5) 5 (envOf (bits 18 (live ref11_All_P0 0 5)) l) H (loopQ 18 ref11_All_P0 5 N Qx Qr) = ref11_All_L0 l H N Qx Qr := by kernel_rfl
theorem ref11_All_L0_ind (I : Nat → List Value → Heap → Prop) (Qx : Nat → List Value → Heap → Prop) (Qr : List Value → Heap → Prop) (hs : ∀ k l H, I k l H → ref11_All_L0 l H (fun l H => ∃ k', k' < k ∧ I k' l H) Qx Qr) (k : Nat) (l : List Value) (H : Heap) (h : I k l H) : wLoop P true 18 ref11_All_P0 5 l H Qx Qr :=
  loop_ind (by kernel_rfl) I (fun k l H h => (ref11_All_L0_eq l H _ Qx Qr).mpr (hs k l H h)) k l H h
def ref11_All (t0 : Value) (H : Heap) (K : Value → Heap → Prop) : Prop :=
opW (lenSl t0 H) fun t6 H1 =>
wLoop P true 18 ref11_All_P0 5 [t0, (.bool false), t0, t6, (.int .i64 0)] H1 (fun id l H3 =>
cond (Nat.beq id 0) (
opW (lenSl (nth l 0) H3) fun t16 H5 =>
opP ((binC P .leq 3 true).f t16 (.int .i64 8)) fun t17 =>
K t17 H5) (
False)) (fun l H3 =>
K (nth l 1) H3)
theorem ref11_All_eq (t0 : Value) (H : Heap) (K : Value → Heap → Prop) : vcF P n_ref11_All [t0] H K = ref11_All t0 H K := by kernel_rfl
theorem ref11_All_ok {t0 : Value} {H : Heap} {K : Value → Heap → Prop} (h : ref11_All t0 H K) : wCall P n_ref11_All [t0] H K := wCall_of_vcF rfl ((ref11_All_eq t0 H K).mpr h)

/-! bootjack/slot.Right -/
def slot_Right (t0 : Value) (H : Heap) (K : Value → Heap → Prop) : Prop :=
wNew (cellsL t0) H fun t1 H1 =>
wJoin (fun J =>
opP (offPtr 0 t1) fun t3 =>
opW (loadOne t3 H1) fun t4 H5 =>
wJoin (fun J_1 =>
opP ((binC P .eql 3 true).f t4 (.int .i64 0)) fun t6 =>
wIf t6 (
J_1 [t1, t4, t6] H5) (
opP ((binC P .eql 3 true).f t4 (.int .i64 1)) fun t7 =>
wIf t7 (
J_1 [t1, t4, t7] H5) (
opP ((binC P .eql 3 true).f t4 (.int .i64 4)) fun t8 =>
J_1 [t1, t4, t8] H5))) (fun l H11 =>
wIf (nth l 2) (
opW (loadAgg 36 (nth l 0) H11) fun t9 H13 =>
opP (offPtr 0 (nth l 0)) fun t10 =>
opW (loadOne t10 H13) fun t11 H16 =>
opP ((buildC P 34).f [(0, t11)]) fun t12 =>
opP ((binC P .eql 34 false).f t9 t12) fun t13 =>
K t13 H16) (
opP ((binC P .eql 3 true).f (nth l 1) (.int .i64 2)) fun t15 =>
wIf t15 (
opP (offPtr 1 (nth l 0)) fun t16 =>
opW (loadOne t16 H11) fun t17 H22 =>
opP ((binC P .lss 3 true).f t17 (.int .i64 0)) fun t18 =>
wIf t18 (
opP (pickA t18 (.bool true) undef) fun t23 =>
wIf t23 (
K (.bool false) H22) (
J [(nth l 0)] H22)) (
opP (offPtr 1 (nth l 0)) fun t20 =>
opW (loadOne t20 H22) fun t21 H27 =>
opP ((binC P .gtr 3 true).f t21 (.int .i64 7)) fun t22 =>
opP (pickA t18 (.bool true) t22) fun t23_1 =>
wIf t23_1 (
K (.bool false) H27) (
J [(nth l 0)] H27))) (
opP ((binC P .eql 3 true).f (nth l 1) (.int .i64 3)) fun t25 =>
wIf t25 (
opP (offPtr 1 (nth l 0)) fun t26 =>
opW (loadOne t26 H11) fun t27 H33 =>
opP ((binC P .neq 3 true).f t27 (.int .i64 0)) fun t28 =>
wIf t28 (
K (.bool false) H33) (
J [(nth l 0)] H33)) (
K (.bool false) H11))))) (fun l_1 H36 =>
opP (offPtr 2 (nth l_1 0)) fun t29 =>
opW (loadOne t29 H36) fun t30 H39 =>
opP ((binC P .geq 30 true).f t30 (.int .u64 1)) fun t31 =>
wIf t31 (
opP (offPtr 2 (nth l_1 0)) fun t33 =>
opW (loadOne t33 H39) fun t34 H43 =>
opP ((binC P .leq 30 true).f t34 (.int .u64 281474976710656)) fun t35 =>
opP (pickA t31 t35 (.bool false)) fun t36 =>
wIf t36 (
opP (offPtr 3 (nth l_1 0)) fun t38 =>
opW (loadOne t38 H43) fun t39 H48 =>
opP ((binC P .geq 3 true).f t39 (.int .i64 1)) fun t40 =>
opP (pickA t36 t40 (.bool false)) fun t41 =>
wIf t41 (
opP (offPtr 3 (nth l_1 0)) fun t43 =>
opW (loadOne t43 H48) fun t44 H53 =>
opP ((binC P .leq 3 true).f t44 (.int .i64 65536)) fun t45 =>
opP (pickA t41 t45 (.bool false)) fun t46 =>
K t46 H53) (
opP (pickA t41 undef (.bool false)) fun t46_1 =>
K t46_1 H48)) (
opP (pickA t36 undef (.bool false)) fun t41_1 =>
opP (pickA t41_1 undef (.bool false)) fun t46_2 =>
K t46_2 H43)) (
opP (pickA t31 undef (.bool false)) fun t36_1 =>
opP (pickA t36_1 undef (.bool false)) fun t41_2 =>
opP (pickA t41_2 undef (.bool false)) fun t46_3 =>
K t46_3 H39))
theorem slot_Right_eq (t0 : Value) (H : Heap) (K : Value → Heap → Prop) : vcF P n_slot_Right [t0] H K = slot_Right t0 H K := by kernel_rfl
theorem slot_Right_ok {t0 : Value} {H : Heap} {K : Value → Heap → Prop} (h : slot_Right t0 H K) : wCall P n_slot_Right [t0] H K := wCall_of_vcF rfl ((slot_Right_eq t0 H K).mpr h)

/-! bootjack/table.index -/
def table_index (t0 : Value) (H : Heap) (K : Value → Heap → Prop) : Prop :=
opP ((binC P .eql 3 true).f t0 (.int .i64 0)) fun t4 =>
wIf t4 (
opP (pickA t4 (.bool true) undef) fun t8 =>
K t8 H) (
opP ((binC P .eql 3 true).f t0 (.int .i64 1)) fun t7 =>
opP (pickA t4 (.bool true) t7) fun t8_1 =>
K t8_1 H)
theorem table_index_eq (t0 : Value) (H : Heap) (K : Value → Heap → Prop) : vcF P n_table_index [t0] H K = table_index t0 H K := by kernel_rfl
theorem table_index_ok {t0 : Value} {H : Heap} {K : Value → Heap → Prop} (h : table_index t0 H K) : wCall P n_table_index [t0] H K := wCall_of_vcF rfl ((table_index_eq t0 H K).mpr h)

/-! bootjack/bootjackref10.Bytes -/
def ref10_Bytes (t0 : Value) (H : Heap) (K : Value → Heap → Prop) : Prop :=
wNew (cellsL t0) H fun t1 H1 =>
opW ((buildSliceC P 46 0).f [] H1) fun t4 H3 =>
opW (loadAgg 36 t1 H3) fun t5 H5 =>
wCall P n_ref10_Right [t5] H5 fun t6 H7 =>
opP (unA .not t6) fun t7 =>
wIf t7 (
K t4 H7) (
opP (offPtr 0 t1) fun t10 =>
opW (loadOne t10 H7) fun t11 H11 =>
opW (cvInt .u8 t11 H11) fun t12 H13 =>
opP (offPtr 1 t1) fun t13 =>
opW (loadOne t13 H13) fun t14 H16 =>
opW (cvInt .u8 t14 H16) fun t15 H18 =>
opW ((buildSliceC P 46 2).f [(0, t12), (1, t15)] H18) fun t16 H20 =>
opW (appendWith 1 1 t4 t16 H20) fun t17 H22 =>
opP (offPtr 2 t1) fun t19 =>
opW (loadOne t19 H22) fun t20 H25 =>
wCall P n_ref05_Fixed [t20, (.int .i64 8)] H25 fun t21 H27 =>
opW (appendWith 1 1 t17 t21 H27) fun t22 H29 =>
opP (offPtr 3 t1) fun t24 =>
opW (loadOne t24 H29) fun t25 H32 =>
opW (cvInt .u64 t25 H32) fun t26 H34 =>
wCall P n_ref05_Fixed [t26, (.int .i64 4)] H34 fun t27 H36 =>
opW (appendWith 1 1 t22 t27 H36) fun t28 H38 =>
opP (offPtr 4 t1) fun t30 =>
opP (sliceArr 32 1 t30 none none none H38) fun t31 =>
opW (appendWith 1 1 t28 t31 H38) fun t32 H42 =>
K t32 H42)
theorem ref10_Bytes_eq (t0 : Value) (H : Heap) (K : Value → Heap → Prop) : vcF P n_ref10_Bytes [t0] H K = ref10_Bytes t0 H K := by kernel_rfl
theorem ref10_Bytes_ok {t0 : Value} {H : Heap} {K : Value → Heap → Prop} (h : ref10_Bytes t0 H K) : wCall P n_ref10_Bytes [t0] H K := wCall_of_vcF rfl ((ref10_Bytes_eq t0 H K).mpr h)

/-! bootjack/bootjackref05.Fixed -/
noncomputable abbrev ref05_Fixed_P0 : Code := loopAt P n_ref05_Fixed 0
/-- loop 0: goes on from the slots [0, 1, 4, 5, 6]; leaves [4, 5] -/
def ref05_Fixed_L0 (l : List Value) (H : Heap) (N : List Value → Heap → Prop) (Qx : Nat → List Value → Heap → Prop) (Qr : List Value → Heap → Prop) : Prop :=
wCall P n_ref05_size [(nth l 1)] H fun t10 H1 =>
opP ((binC P .lss 3 false).f (nth l 4) t10) fun t11 =>
wIf t11 (
opP ((binC P .rem 30 true).f (nth l 0) (.int .u64 256)) fun t16 =>
opW (cvInt .u8 t16 H1) fun t17 H5 =>
opW ((buildSliceC P 46 1).f [(0, t17)] H5) fun t18 H7 =>
opW (appendWith 1 1 (nth l 3) t18 H7) fun t19 H9 =>
opP ((binC P .quo 30 true).f (nth l 0) (.int .u64 256)) fun t21 =>
opP ((binC P .add 3 true).f (nth l 4) (.int .i64 1)) fun t13 =>
N [t21, (nth l 1), (nth l 2), t19, t13] H9) (
Qx 0 [(nth l 2), (nth l 3)] H1)
theorem ref05_Fixed_L0_eq (l : List Value) (H : Heap) (N : List Value → Heap → Prop) (Qx : Nat → List Value → Heap → Prop) (Qr : List Value → Heap → Prop) : vcC P true 23 ref05_Fixed_P0 (live ref05_Fixed_P0 0 48) 48 (envOf (bits 23 (live ref05_Fixed_P0 0 48)) l) H (loopQ 23 ref05_Fixed_P0 48 N Qx Qr) = ref05_Fixed_L0 l H N Qx Qr := by kernel_rfl
theorem ref05_Fixed_L0_ind (I : Nat → List Value → Heap → Prop) (Qx : Nat → List Value → Heap → Prop) (Qr : List Value → Heap → Prop) (hs : ∀ k l H, I k l H → ref05_Fixed_L0 l H (fun l H => ∃ k', k' < k ∧ I k' l H) Qx Qr) (k : Nat) (l : List Value) (H : Heap) (h : I k l H) : wLoop P true 23 ref05_Fixed_P0 48 l H Qx Qr :=
  loop_ind (by kernel_rfl) I (fun k l H h => (ref05_Fixed_L0_eq l H _ Qx Qr).mpr (hs k l H h)) k l H h
def ref05_Fixed (t0 t1 : Value) (H : Heap) (K : Value → Heap → Prop) : Prop :=
opW ((buildSliceC P 46 0).f [] H) fun t7 H1 =>
wLoop P true 23 ref05_Fixed_P0 48 [t0, t1, (.slice none 0 0), t7, (.int .i64 0)] H1 (fun id l H3 =>
cond (Nat.beq id 0) (
K (nth l 1) H3) (
False)) (fun l H3 =>
K (nth l 0) H3)
theorem ref05_Fixed_eq (t0 t1 : Value) (H : Heap) (K : Value → Heap → Prop) : vcF P n_ref05_Fixed [t0, t1] H K = ref05_Fixed t0 t1 H K := by kernel_rfl
theorem ref05_Fixed_ok {t0 t1 : Value} {H : Heap} {K : Value → Heap → Prop} (h : ref05_Fixed t0 t1 H K) : wCall P n_ref05_Fixed [t0, t1] H K := wCall_of_vcF rfl ((ref05_Fixed_eq t0 t1 H K).mpr h)

/-! bootjack/table.right -/
def table_right (t0 : Value) (H : Heap) (K : Value → Heap → Prop) : Prop :=
wNew (cellsL t0) H fun t1 H1 =>
opP (offPtr 0 t1) fun t5 =>
opW (loadOne t5 H1) fun t6 H4 =>
opP ((buildC P 41).f [(0, t6)]) fun t7 =>
wNew (zc P 41) H4 fun t3 H7 =>
opW (storeTo 40 t3 t7 H7) fun u H9 =>
wJoin (fun J =>
opP (offPtr 0 t1) fun t8 =>
opW (loadOne t8 H9) fun t9 H13 =>
opP ((binC P .eql 3 true).f t9 (.int .i64 1)) fun t11 =>
wIf t11 (
opP (offPtr 1 t1) fun t12 =>
opW (loadOne t12 H13) fun t13 H17 =>
opP (offPtr 3 t1) fun t14 =>
opW (loadAgg 36 t14 H17) fun t15 H20 =>
opP (offPtr 1 t3) fun t16 =>
opW (storeTo 1 t16 t13 H20) fun u_1 H23 =>
cApart (idsOf [t14]) (idsOf [t16, t13]) ∧ (opP (offPtr 3 t3) fun t17 =>
opW (storeTo 36 t17 t15 H23) fun u_2 H26 =>
opP (offPtr 1 t1) fun t18 =>
opW (loadOne t18 H26) fun t19 H29 =>
wCall P n_table_index [t19] H29 fun t20 H31 =>
wIf t20 (
opP (offPtr 3 t1) fun t22 =>
opW (loadAgg 36 t22 H31) fun t23 H34 =>
wCall P n_slot_Right [t23] H34 fun t24 H36 =>
opP (pickA t20 t24 (.bool false)) fun t25 =>
J [t1, t3, t25] H36) (
opP (pickA t20 undef (.bool false)) fun t25_1 =>
J [t1, t3, t25_1] H31))) (
opP ((binC P .eql 3 true).f t9 (.int .i64 2)) fun t27 =>
wIf t27 (
opP (offPtr 2 t1) fun t28 =>
opW (loadOne t28 H13) fun t29 H42 =>
opP (offPtr 2 t3) fun t30 =>
opW (storeTo 1 t30 t29 H42) fun u_3 H45 =>
opP (offPtr 2 t1) fun t31 =>
opW (loadOne t31 H45) fun t32 H48 =>
wCall P n_table_index [t32] H48 fun t33 H50 =>
J [t1, t3, t33] H50) (
opP ((binC P .eql 3 true).f t9 (.int .i64 3)) fun t35 =>
wIf t35 (
opP (offPtr 2 t1) fun t36 =>
opW (loadOne t36 H13) fun t37 H54 =>
opP (offPtr 2 t3) fun t38 =>
opW (storeTo 1 t38 t37 H54) fun u_4 H57 =>
opP (offPtr 2 t1) fun t39 =>
opW (loadOne t39 H57) fun t40 H60 =>
opP ((binC P .eql 3 true).f t40 (.int .i64 (-1))) fun t41 =>
wIf t41 (
opP (pickA t41 (.bool true) undef) fun t46 =>
J [t1, t3, t46] H60) (
opP (offPtr 2 t1) fun t43 =>
opW (loadOne t43 H60) fun t44 H65 =>
wCall P n_table_index [t44] H65 fun t45 H67 =>
opP (pickA t41 (.bool true) t45) fun t46_1 =>
J [t1, t3, t46_1] H67)) (
opP ((binC P .eql 3 true).f t9 (.int .i64 4)) fun t48 =>
wIf t48 (
opP (offPtr 39 t1) fun t49 =>
opW (loadOne t49 H13) fun t50 H72 =>
opP (offPtr 39 t3) fun t51 =>
opW (storeTo 1 t51 t50 H72) fun u_5 H75 =>
opP (offPtr 39 t1) fun t52 =>
opW (loadOne t52 H75) fun t53 H78 =>
opP ((binC P .leq 30 true).f t53 (.int .u64 281474976710656)) fun t54 =>
J [t1, t3, t54] H78) (
J [t1, t3, (.bool false)] H13))))) (fun l H81 =>
wIf (nth l 2) (
opW (loadAgg 40 (nth l 1) H81) fun t57 H83 =>
opW (loadAgg 40 (nth l 0) H83) fun t58 H85 =>
opP ((binC P .eql 41 false).f t57 t58) fun t59 =>
opP (pickA (nth l 2) t59 (.bool false)) fun t60 =>
K t60 H85) (
opP (pickA (nth l 2) undef (.bool false)) fun t60_1 =>
K t60_1 H81))
theorem table_right_eq (t0 : Value) (H : Heap) (K : Value → Heap → Prop) : vcF P n_table_right [t0] H K = table_right t0 H K := by kernel_rfl
theorem table_right_ok {t0 : Value} {H : Heap} {K : Value → Heap → Prop} (h : table_right t0 H K) : wCall P n_table_right [t0] H K := wCall_of_vcF rfl ((table_right_eq t0 H K).mpr h)

/-! bootjack/code.within -/
def code_within (t0 : Value) (H : Heap) (K : Value → Heap → Prop) : Prop :=
opW (withH H (minA [t0, (.int .i64 8)])) fun t4 H1 =>
opW (withH H1 (maxA [(.int .i64 0), t4])) fun t5 H3 =>
K t5 H3
theorem code_within_eq (t0 : Value) (H : Heap) (K : Value → Heap → Prop) : vcF P n_code_within [t0] H K = code_within t0 H K := by kernel_rfl
theorem code_within_ok {t0 : Value} {H : Heap} {K : Value → Heap → Prop} (h : code_within t0 H K) : wCall P n_code_within [t0] H K := wCall_of_vcF rfl ((code_within_eq t0 H K).mpr h)

/-! slices.Concat[[]byte,byte] -/
noncomputable abbrev slices_Concat_byte_byte_P0 : Code := loopAt P n_slices_Concat_byte_byte 0
noncomputable abbrev slices_Concat_byte_byte_P1 : Code := loopAt P n_slices_Concat_byte_byte 1
/-- loop 0: goes on from the slots [0, 2, 3, 9, 10, 11]; leaves [0, 2, 3] -/
def slices_Concat_byte_byte_L0 (l : List Value) (H : Heap) (N : List Value → Heap → Prop) (Qx : Nat → List Value → Heap → Prop) (Qr : List Value → Heap → Prop) : Prop :=
opP ((binC P .lss 3 false).f (nth l 5) (nth l 4)) fun t12 =>
wIf t12 (
opP (idxSl 1 (nth l 3) (nth l 5)) fun t13 =>
opW (loadOne t13 H) fun t14 H3 =>
opW (lenSl t14 H3) fun t17 H5 =>
opP ((binC P .add 3 false).f (nth l 2) t17) fun t18 =>
opP ((binC P .lss 3 true).f t18 (.int .i64 0)) fun t20 =>
wIf t20 (
False) (
opP ((binC P .add 3 true).f (nth l 5) (.int .i64 1)) fun t22 =>
N [(nth l 0), (nth l 1), t18, (nth l 3), (nth l 4), t22] H5)) (
Qx 0 [(nth l 0), (nth l 1), (nth l 2)] H)
theorem slices_Concat_byte_byte_L0_eq (l : List Value) (H : Heap) (N : List Value → Heap → Prop) (Qx : Nat → List Value → Heap → Prop) (Qr : List Value → Heap → Prop) : vcC P true 36 slices_Concat_byte_byte_P0 (live slices_Concat_byte_byte_P0 0 13) 13 (envOf (bits 36 (live slices_Concat_byte_byte_P0 0 13)) l) H (loopQ 36 slices_Concat_byte_byte_P0 13 N Qx Qr) = slices_Concat_byte_byte_L0 l H N Qx Qr := by kernel_rfl
theorem slices_Concat_byte_byte_L0_ind (I : Nat → List Value → Heap → Prop) (Qx : Nat → List Value → Heap → Prop) (Qr : List Value → Heap → Prop) (hs : ∀ k l H, I k l H → slices_Concat_byte_byte_L0 l H (fun l H => ∃ k', k' < k ∧ I k' l H) Qx Qr) (k : Nat) (l : List Value) (H : Heap) (h : I k l H) : wLoop P true 36 slices_Concat_byte_byte_P0 13 l H Qx Qr :=
  loop_ind (by kernel_rfl) I (fun k l H h => (slices_Concat_byte_byte_L0_eq l H _ Qx Qr).mpr (hs k l H h)) k l H h

/-- loop 1: goes on from the slots [2, 6, 25, 26, 27]; leaves [2, 6] -/
def slices_Concat_byte_byte_L1 (l : List Value) (H : Heap) (N : List Value → Heap → Prop) (Qx : Nat → List Value → Heap → Prop) (Qr : List Value → Heap → Prop) : Prop :=
opP ((binC P .lss 3 false).f (nth l 4) (nth l 3)) fun t28 =>
wIf t28 (
opP (idxSl 1 (nth l 2) (nth l 4)) fun t29 =>
opW (loadOne t29 H) fun t30 H3 =>
opW (appendWith 1 1 (nth l 1) t30 H3) fun t33 H5 =>
opP ((binC P .add 3 true).f (nth l 4) (.int .i64 1)) fun t34 =>
N [(nth l 0), t33, (nth l 2), (nth l 3), t34] H5) (
Qx 2 [(nth l 0), (nth l 1)] H)
theorem slices_Concat_byte_byte_L1_eq (l : List Value) (H : Heap) (N : List Value → Heap → Prop) (Qx : Nat → List Value → Heap → Prop) (Qr : List Value → Heap → Prop) : vcC P true 36 slices_Concat_byte_byte_P1 (live slices_Concat_byte_byte_P1 0 68) 68 (envOf (bits 36 (live slices_Concat_byte_byte_P1 0 68)) l) H (loopQ 36 slices_Concat_byte_byte_P1 68 N Qx Qr) = slices_Concat_byte_byte_L1 l H N Qx Qr := by kernel_rfl
theorem slices_Concat_byte_byte_L1_ind (I : Nat → List Value → Heap → Prop) (Qx : Nat → List Value → Heap → Prop) (Qr : List Value → Heap → Prop) (hs : ∀ k l H, I k l H → slices_Concat_byte_byte_L1 l H (fun l H => ∃ k', k' < k ∧ I k' l H) Qx Qr) (k : Nat) (l : List Value) (H : Heap) (h : I k l H) : wLoop P true 36 slices_Concat_byte_byte_P1 68 l H Qx Qr :=
  loop_ind (by kernel_rfl) I (fun k l H h => (slices_Concat_byte_byte_L1_eq l H _ Qx Qr).mpr (hs k l H h)) k l H h
def slices_Concat_byte_byte (t0 : Value) (H : Heap) (K : Value → Heap → Prop) : Prop :=
opW (lenSl t0 H) fun t10 H1 =>
wLoop P true 36 slices_Concat_byte_byte_P0 13 [t0, (.slice none 0 0), (.int .i64 0), t0, t10, (.int .i64 0)] H1 (fun id l H3 =>
cond (Nat.beq id 0) (
wCall P n_slices_Grow_byte_byte [(.slice none 0 0), (nth l 2)] H3 fun t24 H5 =>
opW (lenSl (nth l 0) H5) fun t26 H7 =>
wLoop P true 36 slices_Concat_byte_byte_P1 68 [(nth l 1), t24, (nth l 0), t26, (.int .i64 0)] H7 (fun id l_1 H9 =>
cond (Nat.beq id 2) (
K (nth l_1 1) H9) (
False)) (fun l_1 H9 =>
K (nth l_1 0) H9)) (
False)) (fun l H3 =>
K (nth l 1) H3)
theorem slices_Concat_byte_byte_eq (t0 : Value) (H : Heap) (K : Value → Heap → Prop) : vcF P n_slices_Concat_byte_byte [t0] H K = slices_Concat_byte_byte t0 H K := by kernel_rfl
theorem slices_Concat_byte_byte_ok {t0 : Value} {H : Heap} {K : Value → Heap → Prop} (h : slices_Concat_byte_byte t0 H K) : wCall P n_slices_Concat_byte_byte [t0] H K := wCall_of_vcF rfl ((slices_Concat_byte_byte_eq t0 H K).mpr h)

/-! slices.Clone[[]byte,byte] -/
def slices_Clone_byte_byte (t0 : Value) (H : Heap) (K : Value → Heap → Prop) : Prop :=
opP ((binC P .eql 46 true).f t0 (.slice none 0 0)) fun t4 =>
wIf t4 (
K (.slice none 0 0) H) (
opW ((buildSliceC P 46 0).f [] H) fun t5 H2 =>
opW (appendWith 1 1 t5 t0 H2) fun t7 H4 =>
K t7 H4)
theorem slices_Clone_byte_byte_eq (t0 : Value) (H : Heap) (K : Value → Heap → Prop) : vcF P n_slices_Clone_byte_byte [t0] H K = slices_Clone_byte_byte t0 H K := by kernel_rfl
theorem slices_Clone_byte_byte_ok {t0 : Value} {H : Heap} {K : Value → Heap → Prop} (h : slices_Clone_byte_byte t0 H K) : wCall P n_slices_Clone_byte_byte [t0] H K := wCall_of_vcF rfl ((slices_Clone_byte_byte_eq t0 H K).mpr h)

/-! bootjack/bootjackref11.One -/
def ref11_One (t0 : Value) (H : Heap) (K : Value → Heap → Prop) : Prop :=
wNew (cellsL t0) H fun t1 H1 =>
opP (offPtr 0 t1) fun t3 =>
opW (loadOne t3 H1) fun t4 H4 =>
opP ((binC P .eql 3 true).f t4 (.int .i64 1)) fun t6 =>
wIf t6 (
opP (offPtr 2 t1) fun t7 =>
opW (loadOne t7 H4) fun t8 H8 =>
opP ((binC P .eql 3 true).f t8 (.int .i64 0)) fun t9 =>
wIf t9 (
opP (offPtr 39 t1) fun t11 =>
opW (loadOne t11 H8) fun t12 H12 =>
opP ((binC P .eql 30 true).f t12 (.int .u64 0)) fun t13 =>
opP (pickA t9 t13 (.bool false)) fun t14 =>
wIf t14 (
opP (offPtr 1 t1) fun t16 =>
opW (loadOne t16 H12) fun t17 H17 =>
opP ((binC P .geq 3 true).f t17 (.int .i64 0)) fun t18 =>
opP (pickA t14 t18 (.bool false)) fun t19 =>
wIf t19 (
opP (offPtr 1 t1) fun t21 =>
opW (loadOne t21 H17) fun t22 H22 =>
opP ((binC P .leq 3 true).f t22 (.int .i64 1)) fun t23 =>
opP (pickA t19 t23 (.bool false)) fun t24 =>
wIf t24 (
opP (offPtr 3 t1) fun t26 =>
opW (loadAgg 36 t26 H22) fun t27 H27 =>
wCall P n_ref10_Right [t27] H27 fun t28 H29 =>
opP (pickA t24 t28 (.bool false)) fun t29 =>
K t29 H29) (
opP (pickA t24 undef (.bool false)) fun t29_1 =>
K t29_1 H22)) (
opP (pickA t19 undef (.bool false)) fun t24_1 =>
opP (pickA t24_1 undef (.bool false)) fun t29_2 =>
K t29_2 H17)) (
opP (pickA t14 undef (.bool false)) fun t19_1 =>
opP (pickA t19_1 undef (.bool false)) fun t24_2 =>
opP (pickA t24_2 undef (.bool false)) fun t29_3 =>
K t29_3 H12)) (
opP (pickA t9 undef (.bool false)) fun t14_1 =>
opP (pickA t14_1 undef (.bool false)) fun t19_2 =>
opP (pickA t19_2 undef (.bool false)) fun t24_3 =>
opP (pickA t24_3 undef (.bool false)) fun t29_4 =>
K t29_4 H8)) (
opP ((binC P .eql 3 true).f t4 (.int .i64 2)) fun t31 =>
wIf t31 (
opP (offPtr 1 t1) fun t32 =>
opW (loadOne t32 H4) fun t33 H44 =>
opP ((binC P .eql 3 true).f t33 (.int .i64 0)) fun t34 =>
wIf t34 (
opP (offPtr 39 t1) fun t36 =>
opW (loadOne t36 H44) fun t37 H48 =>
opP ((binC P .eql 30 true).f t37 (.int .u64 0)) fun t38 =>
opP (pickA t34 t38 (.bool false)) fun t39 =>
wIf t39 (
opP (offPtr 3 t1) fun t41 =>
opW (loadAgg 36 t41 H48) fun t42 H53 =>
opP ((buildC P 34).f []) fun t43 =>
opP ((binC P .eql 34 false).f t42 t43) fun t44 =>
opP (pickA t39 t44 (.bool false)) fun t45 =>
wIf t45 (
opP (offPtr 2 t1) fun t47 =>
opW (loadOne t47 H53) fun t48 H59 =>
opP ((binC P .geq 3 true).f t48 (.int .i64 0)) fun t49 =>
opP (pickA t45 t49 (.bool false)) fun t50 =>
wIf t50 (
opP (offPtr 2 t1) fun t52 =>
opW (loadOne t52 H59) fun t53 H64 =>
opP ((binC P .leq 3 true).f t53 (.int .i64 1)) fun t54 =>
opP (pickA t50 t54 (.bool false)) fun t55 =>
K t55 H64) (
opP (pickA t50 undef (.bool false)) fun t55_1 =>
K t55_1 H59)) (
opP (pickA t45 undef (.bool false)) fun t50_1 =>
opP (pickA t50_1 undef (.bool false)) fun t55_2 =>
K t55_2 H53)) (
opP (pickA t39 undef (.bool false)) fun t45_1 =>
opP (pickA t45_1 undef (.bool false)) fun t50_2 =>
opP (pickA t50_2 undef (.bool false)) fun t55_3 =>
K t55_3 H48)) (
opP (pickA t34 undef (.bool false)) fun t39_1 =>
opP (pickA t39_1 undef (.bool false)) fun t45_2 =>
opP (pickA t45_2 undef (.bool false)) fun t50_3 =>
opP (pickA t50_3 undef (.bool false)) fun t55_4 =>
K t55_4 H44)) (
opP ((binC P .eql 3 true).f t4 (.int .i64 3)) fun t57 =>
wIf t57 (
opP (offPtr 1 t1) fun t58 =>
opW (loadOne t58 H4) fun t59 H80 =>
opP ((binC P .eql 3 true).f t59 (.int .i64 0)) fun t60 =>
wIf t60 (
opP (offPtr 39 t1) fun t62 =>
opW (loadOne t62 H80) fun t63 H84 =>
opP ((binC P .eql 30 true).f t63 (.int .u64 0)) fun t64 =>
opP (pickA t60 t64 (.bool false)) fun t65 =>
wIf t65 (
opP (offPtr 3 t1) fun t67 =>
opW (loadAgg 36 t67 H84) fun t68 H89 =>
opP ((buildC P 34).f []) fun t69 =>
opP ((binC P .eql 34 false).f t68 t69) fun t70 =>
opP (pickA t65 t70 (.bool false)) fun t71 =>
wIf t71 (
opP (offPtr 2 t1) fun t73 =>
opW (loadOne t73 H89) fun t74 H95 =>
opP ((binC P .geq 3 true).f t74 (.int .i64 (-1))) fun t75 =>
opP (pickA t71 t75 (.bool false)) fun t76 =>
wIf t76 (
opP (offPtr 2 t1) fun t78 =>
opW (loadOne t78 H95) fun t79 H100 =>
opP ((binC P .leq 3 true).f t79 (.int .i64 1)) fun t80 =>
opP (pickA t76 t80 (.bool false)) fun t81 =>
K t81 H100) (
opP (pickA t76 undef (.bool false)) fun t81_1 =>
K t81_1 H95)) (
opP (pickA t71 undef (.bool false)) fun t76_1 =>
opP (pickA t76_1 undef (.bool false)) fun t81_2 =>
K t81_2 H89)) (
opP (pickA t65 undef (.bool false)) fun t71_1 =>
opP (pickA t71_1 undef (.bool false)) fun t76_2 =>
opP (pickA t76_2 undef (.bool false)) fun t81_3 =>
K t81_3 H84)) (
opP (pickA t60 undef (.bool false)) fun t65_1 =>
opP (pickA t65_1 undef (.bool false)) fun t71_2 =>
opP (pickA t71_2 undef (.bool false)) fun t76_3 =>
opP (pickA t76_3 undef (.bool false)) fun t81_4 =>
K t81_4 H80)) (
opP ((binC P .eql 3 true).f t4 (.int .i64 4)) fun t83 =>
wIf t83 (
opP (offPtr 1 t1) fun t84 =>
opW (loadOne t84 H4) fun t85 H116 =>
opP ((binC P .eql 3 true).f t85 (.int .i64 0)) fun t86 =>
wIf t86 (
opP (offPtr 2 t1) fun t88 =>
opW (loadOne t88 H116) fun t89 H120 =>
opP ((binC P .eql 3 true).f t89 (.int .i64 0)) fun t90 =>
opP (pickA t86 t90 (.bool false)) fun t91 =>
wIf t91 (
opP (offPtr 3 t1) fun t93 =>
opW (loadAgg 36 t93 H120) fun t94 H125 =>
opP ((buildC P 34).f []) fun t95 =>
opP ((binC P .eql 34 false).f t94 t95) fun t96 =>
opP (pickA t91 t96 (.bool false)) fun t97 =>
wIf t97 (
opP (offPtr 39 t1) fun t99 =>
opW (loadOne t99 H125) fun t100 H131 =>
opP ((binC P .leq 30 true).f t100 (.int .u64 281474976710656)) fun t101 =>
opP (pickA t97 t101 (.bool false)) fun t102 =>
K t102 H131) (
opP (pickA t97 undef (.bool false)) fun t102_1 =>
K t102_1 H125)) (
opP (pickA t91 undef (.bool false)) fun t97_1 =>
opP (pickA t97_1 undef (.bool false)) fun t102_2 =>
K t102_2 H120)) (
opP (pickA t86 undef (.bool false)) fun t91_1 =>
opP (pickA t91_1 undef (.bool false)) fun t97_2 =>
opP (pickA t97_2 undef (.bool false)) fun t102_3 =>
K t102_3 H116)) (
K (.bool false) H4))))
theorem ref11_One_eq (t0 : Value) (H : Heap) (K : Value → Heap → Prop) : vcF P n_ref11_One [t0] H K = ref11_One t0 H K := by kernel_rfl
theorem ref11_One_ok {t0 : Value} {H : Heap} {K : Value → Heap → Prop} (h : ref11_One t0 H K) : wCall P n_ref11_One [t0] H K := wCall_of_vcF rfl ((ref11_One_eq t0 H K).mpr h)

/-! bootjack/bootjackref05.size -/
def ref05_size (t0 : Value) (H : Heap) (K : Value → Heap → Prop) : Prop :=
opP ((binC P .lss 3 true).f t0 (.int .i64 0)) fun t4 =>
wIf t4 (
K (.int .i64 0) H) (
opP ((binC P .gtr 3 true).f t0 (.int .i64 8)) fun t6 =>
wIf t6 (
K (.int .i64 8) H) (
K t0 H))
theorem ref05_size_eq (t0 : Value) (H : Heap) (K : Value → Heap → Prop) : vcF P n_ref05_size [t0] H K = ref05_size t0 H K := by kernel_rfl
theorem ref05_size_ok {t0 : Value} {H : Heap} {K : Value → Heap → Prop} (h : ref05_size t0 H K) : wCall P n_ref05_size [t0] H K := wCall_of_vcF rfl ((ref05_size_eq t0 H K).mpr h)

/-! slices.Grow[[]byte,byte] -/
def slices_Grow_byte_byte (t0 t1 : Value) (H : Heap) (K : Value → Heap → Prop) : Prop :=
wJoin (fun J =>
opP ((binC P .lss 3 true).f t1 (.int .i64 0)) fun t6 =>
wIf t6 (
False) (
J [t0, t1] H)) (fun l H3 =>
opW ((builtinC P .cap [46]).f [(nth l 0)] H3) fun t10 H5 =>
opW (lenSl (nth l 0) H5) fun t12 H7 =>
opP ((binC P .sub 3 false).f t10 t12) fun t13 =>
opP ((binC P .sub 3 false).f (nth l 1) t13) fun t14 =>
opP ((binC P .gtr 3 true).f t14 (.int .i64 0)) fun t16 =>
wIf t16 (
opW ((builtinC P .cap [46]).f [(nth l 0)] H7) fun t19 H12 =>
opP (sliceSl 1 (nth l 0) none (some t19) none) fun t20 =>
opW ((builtinC P .append [46, 3]).f [t20, t14] H12) fun t22 H15 =>
opW (lenSl (nth l 0) H15) fun t24 H17 =>
opP (sliceSl 1 t22 none (some t24) none) fun t25 =>
K t25 H17) (
K (nth l 0) H7))
theorem slices_Grow_byte_byte_eq (t0 t1 : Value) (H : Heap) (K : Value → Heap → Prop) : vcF P n_slices_Grow_byte_byte [t0, t1] H K = slices_Grow_byte_byte t0 t1 H K := by kernel_rfl
theorem slices_Grow_byte_byte_ok {t0 t1 : Value} {H : Heap} {K : Value → Heap → Prop} (h : slices_Grow_byte_byte t0 t1 H K) : wCall P n_slices_Grow_byte_byte [t0, t1] H K := wCall_of_vcF rfl ((slices_Grow_byte_byte_eq t0 t1 H K).mpr h)

end
end T
