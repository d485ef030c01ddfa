import Derived.Test.YtkfbmfhfbfgojaaAbSl2
import Derived.Test.YtkfbmfhfbfgojaaProg
import Derived.KernelRfl
set_option linter.unusedVariables false
set_option maxRecDepth 100000
namespace B
open Go Go.Ab
noncomputable abbrev P : Program := Go.Proofs.Try.prog
noncomputable section
abbrev n_law12_BootPlans : Nat := 3
abbrev n_law12_BootSays : Nat := 4
abbrev n_law12_BootFalls : Nat := 5
abbrev n_law12_BootGood : Nat := 6
abbrev n_law12_bootAlive : Nat := 7
abbrev n_boot_Plan : Nat := 8
abbrev n_ref12_Plan : Nat := 9
abbrev n_boot_Wipe : Nat := 10
abbrev n_ref12_Wipe : Nat := 11
abbrev n_law12_same : Nat := 12
abbrev n_boot_Pick : Nat := 13
abbrev n_ref12_Pick : Nat := 14
abbrev n_boot_Aim : Nat := 15
abbrev n_ref12_Aim : Nat := 16
abbrev n_boot_Land : Nat := 17
abbrev n_ref12_Land : Nat := 18
abbrev n_boot_Good : Nat := 19
abbrev n_ref12_Good : Nat := 20
abbrev n_boot_Bad : Nat := 21
abbrev n_ref12_Bad : Nat := 22
abbrev n_ref10_Right : Nat := 23
abbrev n_table_Apply : Nat := 24
abbrev n_ref11_Right : Nat := 25
abbrev n_law12_changes : Nat := 26
abbrev n_ref10_Bootable : Nat := 27
abbrev n_boot_look : Nat := 29
abbrev n_boot_view_pick : Nat := 30
abbrev n_boot_view_is : Nat := 31
abbrev n_slot_Bad : Nat := 32
abbrev n_boot_set : Nat := 33
abbrev n_boot_active : Nat := 34
abbrev n_slot_Try : Nat := 35
abbrev n_ref10_Bad : Nat := 36
abbrev n_ref10_Try : Nat := 37
abbrev n_boot_view_other : Nat := 38
abbrev n_boot_has : Nat := 39
abbrev n_slot_Right : Nat := 40
abbrev n_slot_Good : Nat := 41
abbrev n_ref10_Good : Nat := 42
abbrev n_table_Right : Nat := 43
abbrev n_table_transaction : Nat := 44
abbrev n_slot_Bootable : Nat := 45
abbrev n_slot_full : Nat := 46
abbrev n_table_index : Nat := 47
abbrev n_table_right : Nat := 48
instance : Orc := ⟨some n_law12_bootAlive⟩
theorem law12_bootAlive_spec {H : Heap} {K : Value → Heap → Prop} (hk : K (.bool true) H) : wCall P n_law12_bootAlive [] H K := ⟨1, .ret, _, H, rfl, hk⟩
/-! bootjack/bootjacklaw12.BootPlans -/
def law12_BootPlans (t0 : Value) (H : Heap) (K : Value → Heap → Prop) : Prop :=
wNew (cellsL t0) H fun t1 H1 =>
wCall P n_law12_bootAlive [] H1 fun t11 H3 =>
opP (unA .not t11) fun t12 =>
wIf t12 (
K (.bool false) H3) (
opW (loadAgg 75 t1 H3) fun t14 H6 =>
wCall P n_boot_Plan [t14] H6 fun t15 H8 =>
opP (extA 0 t15) fun t16 =>
opP (extA 1 t15) fun t17 =>
opW (loadAgg 75 t1 H8) fun t19 H12 =>
wCall P n_ref12_Plan [t19] H12 fun t20 H14 =>
opP (extA 0 t20) fun t21 =>
opP (extA 1 t20) fun t22 =>
opW (loadAgg 75 t1 H14) fun t24 H18 =>
wCall P n_boot_Wipe [t24] H18 fun t25 H20 =>
opP (extA 0 t25) fun t26 =>
opP (extA 1 t25) fun t27 =>
opW (loadAgg 75 t1 H20) fun t29 H24 =>
wCall P n_ref12_Wipe [t29] H24 fun t30 H26 =>
opP (extA 0 t30) fun t31 =>
opP (extA 1 t30) fun t32 =>
opP ((binC P .eql 3 false).f t16 t21) fun t35 =>
wIf t35 (
wCall P n_law12_same [t17, t22] H26 fun t39 H31 =>
opP (pickA t35 t39 (.bool false)) fun t40 =>
wIf t40 (
opW (loadAgg 75 t1 H31) fun t42 H34 =>
wCall P n_boot_Pick [t42] H34 fun t43 H36 =>
opW (loadAgg 75 t1 H36) fun t44 H38 =>
cSame (sameB H34 H36) (idsOf [t1]) ∧ (wCall P n_ref12_Pick [t44] H38 fun t45 H40 =>
opP ((binC P .eql 3 false).f t43 t45) fun t46 =>
opP (pickA t40 t46 (.bool false)) fun t47 =>
wIf t47 (
opW (loadAgg 75 t1 H40) fun t49 H44 =>
wCall P n_boot_Aim [t49] H44 fun t50 H46 =>
opW (loadAgg 75 t1 H46) fun t51 H48 =>
cSame (sameB H44 H46) (idsOf [t1]) ∧ (wCall P n_ref12_Aim [t51] H48 fun t52 H50 =>
opP ((binC P .eql 3 false).f t50 t52) fun t53 =>
opP (pickA t47 t53 (.bool false)) fun t54 =>
wIf t54 (
wCall P n_law12_same [t26, t31] H50 fun t58 H54 =>
opP (pickA t54 t58 (.bool false)) fun t59 =>
wIf t59 (
opP ((binC P .eql 3 false).f t27 t32) fun t63 =>
opP (pickA t59 t63 (.bool false)) fun t64 =>
K t64 H54) (
opP (pickA t59 undef (.bool false)) fun t64_1 =>
K t64_1 H54)) (
opP (pickA t54 undef (.bool false)) fun t59_1 =>
opP (pickA t59_1 undef (.bool false)) fun t64_2 =>
K t64_2 H50))) (
opP (pickA t47 undef (.bool false)) fun t54_1 =>
opP (pickA t54_1 undef (.bool false)) fun t59_2 =>
opP (pickA t59_2 undef (.bool false)) fun t64_3 =>
K t64_3 H40))) (
opP (pickA t40 undef (.bool false)) fun t47_1 =>
opP (pickA t47_1 undef (.bool false)) fun t54_2 =>
opP (pickA t54_2 undef (.bool false)) fun t59_3 =>
opP (pickA t59_3 undef (.bool false)) fun t64_4 =>
K t64_4 H31)) (
opP (pickA t35 undef (.bool false)) fun t40_1 =>
opP (pickA t40_1 undef (.bool false)) fun t47_2 =>
opP (pickA t47_2 undef (.bool false)) fun t54_3 =>
opP (pickA t54_3 undef (.bool false)) fun t59_4 =>
opP (pickA t59_4 undef (.bool false)) fun t64_5 =>
K t64_5 H26))
theorem law12_BootPlans_eq (t0 : Value) (H : Heap) (K : Value → Heap → Prop) : vcF P n_law12_BootPlans [t0] H K = law12_BootPlans t0 H K := by kernel_rfl
theorem law12_BootPlans_ok {t0 : Value} {H : Heap} {K : Value → Heap → Prop} (h : law12_BootPlans t0 H K) : wCall P n_law12_BootPlans [t0] H K := wCall_of_vcF rfl ((law12_BootPlans_eq t0 H K).mpr h)

/-! bootjack/bootjacklaw12.BootSays -/
def law12_BootSays (t0 t1 t2 : Value) (H : Heap) (K : Value → Heap → Prop) : Prop :=
wNew (cellsL t0) H fun t3 H1 =>
wNew (cellsL t2) H1 fun t5 H3 =>
wCall P n_law12_bootAlive [] H3 fun t19 H5 =>
opP (unA .not t19) fun t20 =>
wIf t20 (
K (.bool false) H5) (
opW (loadAgg 75 t3 H5) fun t22 H8 =>
opW (loadAgg 36 t5 H8) fun t24 H10 =>
wCall P n_boot_Land [t22, t1, t24] H10 fun t25 H12 =>
opP (extA 0 t25) fun t26 =>
opP (extA 1 t25) fun t27 =>
opW (loadAgg 75 t3 H12) fun t29 H16 =>
opW (loadAgg 36 t5 H16) fun t31 H18 =>
wCall P n_ref12_Land [t29, t1, t31] H18 fun t32 H20 =>
opP (extA 0 t32) fun t33 =>
opP (extA 1 t32) fun t34 =>
opW (loadAgg 75 t3 H20) fun t36 H24 =>
wCall P n_boot_Good [t36, t1] H24 fun t38 H26 =>
opP (extA 0 t38) fun t39 =>
opP (extA 1 t38) fun t40 =>
opW (loadAgg 75 t3 H26) fun t42 H30 =>
wCall P n_ref12_Good [t42, t1] H30 fun t44 H32 =>
opP (extA 0 t44) fun t45 =>
opP (extA 1 t44) fun t46 =>
opW (loadAgg 75 t3 H32) fun t48 H36 =>
wCall P n_boot_Bad [t48, t1] H36 fun t50 H38 =>
opP (extA 0 t50) fun t51 =>
opP (extA 1 t50) fun t52 =>
opW (loadAgg 75 t3 H38) fun t54 H42 =>
wCall P n_ref12_Bad [t54, t1] H42 fun t56 H44 =>
opP (extA 0 t56) fun t57 =>
opP (extA 1 t56) fun t58 =>
wCall P n_law12_same [t26, t33] H44 fun t61 H48 =>
wIf t61 (
opP ((binC P .eql 3 false).f t27 t34) fun t65 =>
opP (pickA t61 t65 (.bool false)) fun t66 =>
wIf t66 (
wCall P n_law12_same [t39, t45] H48 fun t70 H52 =>
opP (pickA t66 t70 (.bool false)) fun t71 =>
wIf t71 (
opP ((binC P .eql 3 false).f t40 t46) fun t75 =>
opP (pickA t71 t75 (.bool false)) fun t76 =>
wIf t76 (
wCall P n_law12_same [t51, t57] H52 fun t80 H57 =>
opP (pickA t76 t80 (.bool false)) fun t81 =>
wIf t81 (
opP ((binC P .eql 3 false).f t52 t58) fun t85 =>
opP (pickA t81 t85 (.bool false)) fun t86 =>
K t86 H57) (
opP (pickA t81 undef (.bool false)) fun t86_1 =>
K t86_1 H57)) (
opP (pickA t76 undef (.bool false)) fun t81_1 =>
opP (pickA t81_1 undef (.bool false)) fun t86_2 =>
K t86_2 H52)) (
opP (pickA t71 undef (.bool false)) fun t76_1 =>
opP (pickA t76_1 undef (.bool false)) fun t81_2 =>
opP (pickA t81_2 undef (.bool false)) fun t86_3 =>
K t86_3 H52)) (
opP (pickA t66 undef (.bool false)) fun t71_1 =>
opP (pickA t71_1 undef (.bool false)) fun t76_2 =>
opP (pickA t76_2 undef (.bool false)) fun t81_3 =>
opP (pickA t81_3 undef (.bool false)) fun t86_4 =>
K t86_4 H48)) (
opP (pickA t61 undef (.bool false)) fun t66_1 =>
opP (pickA t66_1 undef (.bool false)) fun t71_2 =>
opP (pickA t71_2 undef (.bool false)) fun t76_3 =>
opP (pickA t76_3 undef (.bool false)) fun t81_4 =>
opP (pickA t81_4 undef (.bool false)) fun t86_5 =>
K t86_5 H48))
theorem law12_BootSays_eq (t0 t1 t2 : Value) (H : Heap) (K : Value → Heap → Prop) : vcF P n_law12_BootSays [t0, t1, t2] H K = law12_BootSays t0 t1 t2 H K := by kernel_rfl
theorem law12_BootSays_ok {t0 t1 t2 : Value} {H : Heap} {K : Value → Heap → Prop} (h : law12_BootSays t0 t1 t2 H K) : wCall P n_law12_BootSays [t0, t1, t2] H K := wCall_of_vcF rfl ((law12_BootSays_eq t0 t1 t2 H K).mpr h)

/-! bootjack/bootjacklaw12.BootFalls -/
noncomputable abbrev law12_BootFalls_P0 : Code := loopAt P n_law12_BootFalls 0
/-- loop 0: goes on from the slots [2, 3, 4, 6, 7, 8, 15]; leaves [6] -/
def law12_BootFalls_L0 (l : List Value) (H : Heap) (N : List Value → Heap → Prop) (Qx : Nat → List Value → Heap → Prop) (Qr : List Value → Heap → Prop) : Prop :=
opP (offPtr 1 (nth l 2)) fun t88 =>
opW (loadOne t88 H) fun t89 H2 =>
opP ((binC P .rem 5 true).f (nth l 0) (.int .u8 5)) fun t91 =>
opW (cvInt .i64 t91 H2) fun t92 H5 =>
opP ((binC P .add 3 false).f t89 t92) fun t93 =>
opP ((binC P .lss 3 false).f (nth l 6) t93) fun t94 =>
wIf t94 (
opW (loadAgg 75 (nth l 1) H5) fun t98 H9 =>
wCall P n_boot_Plan [t98] H9 fun t99 H11 =>
opP (extA 0 t99) fun t100 =>
opP (extA 1 t99) fun t101 =>
opW (loadAgg 75 (nth l 1) H11) fun t103 H15 =>
wCall P n_table_Apply [t103, t101] H15 fun t105 H17 =>
opP (extA 0 t105) fun t106 =>
opP (extA 1 t105) fun t107 =>
wNew (zc P 29) H17 fun t18 H21 =>
opW (storeTo 75 t18 t106 H21) fun u H23 =>
wJoin (fun J =>
opP (offPtr 1 (nth l 2)) fun t110 =>
opW (loadOne t110 H23) fun t111 H27 =>
opP ((binC P .geq 3 false).f (nth l 6) t111) fun t112 =>
wIf t112 (
J [(nth l 0), (nth l 1), (nth l 2), (nth l 3), (nth l 4), (nth l 5), (nth l 6), t100, t18, t107, (nth l 5)] H27) (
J [(nth l 0), (nth l 1), (nth l 2), (nth l 3), (nth l 4), (nth l 5), (nth l 6), t100, t18, t107, (nth l 4)] H27)) (fun l_1 H30 =>
wJoin (fun J_1 =>
opP ((binC P .neq 34 true).f (nth l_1 9) (.int .i64 0)) fun t115 =>
wIf t115 (
opP (pickA t115 (.bool true) undef) fun t120 =>
opP (pickA t120 (.bool true) undef) fun t126 =>
opP (pickA t126 (.bool true) undef) fun t132 =>
opP (pickA t132 (.bool true) undef) fun t151 =>
wIf t151 (
Qr [(.bool false)] H30) (
J_1 [(nth l_1 0), (nth l_1 1), (nth l_1 2), (nth l_1 3), (nth l_1 4), (nth l_1 5), (nth l_1 6), (nth l_1 8)] H30)) (
opP ((binC P .neq 3 false).f (nth l_1 7) (nth l_1 10)) fun t119 =>
opP (pickA t115 (.bool true) t119) fun t120_1 =>
wIf t120_1 (
opP (pickA t120_1 (.bool true) undef) fun t126_1 =>
opP (pickA t126_1 (.bool true) undef) fun t132_1 =>
opP (pickA t132_1 (.bool true) undef) fun t151_1 =>
wIf t151_1 (
Qr [(.bool false)] H30) (
J_1 [(nth l_1 0), (nth l_1 1), (nth l_1 2), (nth l_1 3), (nth l_1 4), (nth l_1 5), (nth l_1 6), (nth l_1 8)] H30)) (
opP (offPtr 73 (nth l_1 8)) fun t122 =>
opW (loadOne t122 H30) fun t123 H44 =>
opP ((binC P .neq 3 false).f t123 (nth l_1 10)) fun t125 =>
opP (pickA t120_1 (.bool true) t125) fun t126_2 =>
wIf t126_2 (
opP (pickA t126_2 (.bool true) undef) fun t132_2 =>
opP (pickA t132_2 (.bool true) undef) fun t151_2 =>
wIf t151_2 (
Qr [(.bool false)] H44) (
J_1 [(nth l_1 0), (nth l_1 1), (nth l_1 2), (nth l_1 3), (nth l_1 4), (nth l_1 5), (nth l_1 6), (nth l_1 8)] H44)) (
opP (offPtr 72 (nth l_1 8)) fun t128 =>
opW (loadOne t128 H44) fun t129 H51 =>
opP ((binC P .neq 3 false).f t129 (nth l_1 10)) fun t131 =>
opP (pickA t126_2 (.bool true) t131) fun t132_3 =>
wIf t132_3 (
opP (pickA t132_3 (.bool true) undef) fun t151_3 =>
wIf t151_3 (
Qr [(.bool false)] H51) (
J_1 [(nth l_1 0), (nth l_1 1), (nth l_1 2), (nth l_1 3), (nth l_1 4), (nth l_1 5), (nth l_1 6), (nth l_1 8)] H51)) (
opP (offPtr 1 (nth l_1 2)) fun t135 =>
opW (loadOne t135 H51) fun t136 H57 =>
opP ((binC P .lss 3 false).f (nth l_1 6) t136) fun t137 =>
wIf t137 (
opP (offPtr 0 (nth l_1 8)) fun t140 =>
opP (idxPtr 2 36 t140 (nth l_1 4)) fun t141 =>
opP (offPtr 1 t141) fun t142 =>
opW (loadOne t142 H57) fun t143 H63 =>
opP (offPtr 1 (nth l_1 2)) fun t144 =>
opW (loadOne t144 H63) fun t145 H66 =>
opP ((binC P .sub 3 false).f t145 (nth l_1 6)) fun t147 =>
opP ((binC P .sub 3 true).f t147 (.int .i64 1)) fun t148 =>
opP ((binC P .neq 3 false).f t143 t148) fun t149 =>
opP (pickA t137 t149 (.bool false)) fun t150 =>
opP (pickA t132_3 (.bool true) t150) fun t151_4 =>
wIf t151_4 (
Qr [(.bool false)] H66) (
J_1 [(nth l_1 0), (nth l_1 1), (nth l_1 2), (nth l_1 3), (nth l_1 4), (nth l_1 5), (nth l_1 6), (nth l_1 8)] H66)) (
opP (pickA t137 undef (.bool false)) fun t150_1 =>
opP (pickA t132_3 (.bool true) t150_1) fun t151_5 =>
wIf t151_5 (
Qr [(.bool false)] H57) (
J_1 [(nth l_1 0), (nth l_1 1), (nth l_1 2), (nth l_1 3), (nth l_1 4), (nth l_1 5), (nth l_1 6), (nth l_1 8)] H57))))))) (fun l_2 H75 =>
opP (offPtr 1 (nth l_2 2)) fun t153 =>
opW (loadOne t153 H75) fun t154 H78 =>
opP ((binC P .geq 3 false).f (nth l_2 6) t154) fun t155 =>
wIf t155 (
opP (offPtr 0 (nth l_2 7)) fun t158 =>
opP (idxPtr 2 36 t158 (nth l_2 4)) fun t159 =>
opP (offPtr 0 t159) fun t160 =>
opW (loadOne t160 H78) fun t161 H84 =>
opP ((binC P .neq 3 true).f t161 (.int .i64 4)) fun t162 =>
wIf t162 (
opP (pickA t162 (.bool true) undef) fun t168 =>
opP (pickA t168 (.bool true) undef) fun t179 =>
opP (pickA t155 t179 (.bool false)) fun t180 =>
wIf t180 (
Qr [(.bool false)] H84) (
opW (loadAgg 75 (nth l_2 7) H84) fun t181 H90 =>
opW (storeTo 75 (nth l_2 1) t181 H90) fun u_1 H92 =>
opP ((binC P .add 3 true).f (nth l_2 6) (.int .i64 1)) fun t96 =>
N [(nth l_2 0), (nth l_2 1), (nth l_2 2), (nth l_2 3), (nth l_2 4), (nth l_2 5), t96] H92)) (
opW (loadAgg 75 (nth l_2 7) H84) fun t164 H95 =>
wCall P n_boot_Aim [t164] H95 fun t165 H97 =>
opP ((binC P .neq 3 false).f t165 (nth l_2 4)) fun t167 =>
opP (pickA t162 (.bool true) t167) fun t168_1 =>
wIf t168_1 (
opP (pickA t168_1 (.bool true) undef) fun t179_1 =>
opP (pickA t155 t179_1 (.bool false)) fun t180_1 =>
wIf t180_1 (
Qr [(.bool false)] H97) (
opW (loadAgg 75 (nth l_2 7) H97) fun t181_1 H103 =>
opW (storeTo 75 (nth l_2 1) t181_1 H103) fun u_2 H105 =>
opP ((binC P .add 3 true).f (nth l_2 6) (.int .i64 1)) fun t96_1 =>
N [(nth l_2 0), (nth l_2 1), (nth l_2 2), (nth l_2 3), (nth l_2 4), (nth l_2 5), t96_1] H105)) (
opP (offPtr 0 (nth l_2 7)) fun t171 =>
opP (idxPtr 2 36 t171 (nth l_2 5)) fun t172 =>
opW (loadAgg 36 t172 H97) fun t173 H110 =>
opP (offPtr 0 (nth l_2 1)) fun t175 =>
opP (idxPtr 2 36 t175 (nth l_2 5)) fun t176 =>
opW (loadAgg 36 t176 H110) fun t177 H114 =>
opP ((binC P .neq 26 false).f t173 t177) fun t178 =>
opP (pickA t168_1 (.bool true) t178) fun t179_2 =>
opP (pickA t155 t179_2 (.bool false)) fun t180_2 =>
wIf t180_2 (
Qr [(.bool false)] H114) (
opW (loadAgg 75 (nth l_2 7) H114) fun t181_2 H119 =>
opW (storeTo 75 (nth l_2 1) t181_2 H119) fun u_3 H121 =>
opP ((binC P .add 3 true).f (nth l_2 6) (.int .i64 1)) fun t96_2 =>
N [(nth l_2 0), (nth l_2 1), (nth l_2 2), (nth l_2 3), (nth l_2 4), (nth l_2 5), t96_2] H121)))) (
opP (pickA t155 undef (.bool false)) fun t180_3 =>
wIf t180_3 (
Qr [(.bool false)] H78) (
opW (loadAgg 75 (nth l_2 7) H78) fun t181_3 H125 =>
opW (storeTo 75 (nth l_2 1) t181_3 H125) fun u_4 H127 =>
opP ((binC P .add 3 true).f (nth l_2 6) (.int .i64 1)) fun t96_3 =>
N [(nth l_2 0), (nth l_2 1), (nth l_2 2), (nth l_2 3), (nth l_2 4), (nth l_2 5), t96_3] H127))))) (
Qx 0 [(nth l 3)] H5)
theorem law12_BootFalls_L0_eq (l : List Value) (H : Heap) (N : List Value → Heap → Prop) (Qx : Nat → List Value → Heap → Prop) (Qr : List Value → Heap → Prop) : vcC P true 182 law12_BootFalls_P0 (live law12_BootFalls_P0 0 64) 64 (envOf (bits 182 (live law12_BootFalls_P0 0 64)) l) H (loopQ 182 law12_BootFalls_P0 64 N Qx Qr) = law12_BootFalls_L0 l H N Qx Qr := by kernel_rfl
theorem law12_BootFalls_L0_ind (I : Nat → List Value → Heap → Prop) (Qx : Nat → List Value → Heap → Prop) (Qr : List Value → Heap → Prop) (hs : ∀ k l H, I k l H → law12_BootFalls_L0 l H (fun l H => ∃ k', k' < k ∧ I k' l H) Qx Qr) (k : Nat) (l : List Value) (H : Heap) (h : I k l H) : wLoop P true 182 law12_BootFalls_P0 64 l H Qx Qr :=
  loop_ind (by kernel_rfl) I (fun k l H h => (law12_BootFalls_L0_eq l H _ Qx Qr).mpr (hs k l H h)) k l H h
def law12_BootFalls (t0 t1 t2 : Value) (H : Heap) (K : Value → Heap → Prop) : Prop :=
wNew (cellsL t0) H fun t3 H1 =>
wNew (cellsL t1) H1 fun t4 H3 =>
wCall P n_law12_bootAlive [] H3 fun t21 H5 =>
opP (unA .not t21) fun t22 =>
wIf t22 (
K (.bool false) H5) (
opW (loadAgg 75 t3 H5) fun t23 H8 =>
wCall P n_ref12_Aim [t23] H8 fun t24 H10 =>
wJoin (fun J =>
opP ((binC P .lss 3 true).f t24 (.int .i64 0)) fun t26 =>
wIf t26 (
opP (pickA t26 (.bool true) undef) fun t30 =>
opP (pickA t30 (.bool true) undef) fun t35 =>
opP (pickA t35 (.bool true) undef) fun t40 =>
wIf t40 (
K (.bool true) H10) (
J [t2, t3, t4, (.bool false), t24] H10)) (
opP ((binC P .gtr 3 true).f t24 (.int .i64 1)) fun t29 =>
opP (pickA t26 (.bool true) t29) fun t30_1 =>
wIf t30_1 (
opP (pickA t30_1 (.bool true) undef) fun t35_1 =>
opP (pickA t35_1 (.bool true) undef) fun t40_1 =>
wIf t40_1 (
K (.bool true) H10) (
J [t2, t3, t4, (.bool false), t24] H10)) (
opP (offPtr 0 t4) fun t32 =>
opW (loadOne t32 H10) fun t33 H22 =>
opP ((binC P .neq 3 true).f t33 (.int .i64 2)) fun t34 =>
opP (pickA t30_1 (.bool true) t34) fun t35_2 =>
wIf t35_2 (
opP (pickA t35_2 (.bool true) undef) fun t40_2 =>
wIf t40_2 (
K (.bool true) H22) (
J [t2, t3, t4, (.bool false), t24] H22)) (
opW (loadAgg 36 t4 H22) fun t37 H27 =>
wCall P n_ref10_Right [t37] H27 fun t38 H29 =>
opP (unA .not t38) fun t39 =>
opP (pickA t35_2 (.bool true) t39) fun t40_3 =>
wIf t40_3 (
K (.bool true) H29) (
J [t2, t3, t4, (.bool false), t24] H29))))) (fun l H33 =>
opP (offPtr 72 (nth l 1)) fun t41 =>
opW (loadOne t41 H33) fun t42 H36 =>
opW (loadAgg 75 (nth l 1) H36) fun t44 H38 =>
wCall P n_boot_Wipe [t44] H38 fun t45 H40 =>
opP (extA 0 t45) fun t46 =>
opP (extA 1 t45) fun t47 =>
opW (loadAgg 75 (nth l 1) H40) fun t49 H44 =>
wCall P n_table_Apply [t49, t46] H44 fun t51 H46 =>
opP (extA 0 t51) fun t52 =>
opP (extA 1 t51) fun t53 =>
opW (storeTo 75 (nth l 1) t52 H46) fun u H50 =>
opW (loadAgg 75 (nth l 1) H50) fun t55 H52 =>
opW (loadAgg 36 (nth l 2) H52) fun t57 H54 =>
wCall P n_boot_Land [t55, (nth l 4), t57] H54 fun t58 H56 =>
opP (extA 0 t58) fun t59 =>
opP (extA 1 t58) fun t60 =>
opW (loadAgg 75 (nth l 1) H56) fun t62 H60 =>
wCall P n_table_Apply [t62, t59] H60 fun t64 H62 =>
opP (extA 0 t64) fun t65 =>
opP (extA 1 t64) fun t66 =>
opW (storeTo 75 (nth l 1) t65 H62) fun u_1 H66 =>
wJoin (fun J_1 =>
opP ((binC P .neq 34 true).f t47 (.int .i64 0)) fun t68 =>
wIf t68 (
opP (pickA t68 (.bool true) undef) fun t72 =>
opP (pickA t72 (.bool true) undef) fun t76 =>
opP (pickA t76 (.bool true) undef) fun t80 =>
opP (pickA t80 (.bool true) undef) fun t86 =>
wIf t86 (
K (.bool false) H66) (
J_1 [(nth l 0), (nth l 1), (nth l 2), (nth l 3), (nth l 4), t42] H66)) (
opP ((binC P .neq 34 true).f t53 (.int .i64 0)) fun t71 =>
opP (pickA t68 (.bool true) t71) fun t72_1 =>
wIf t72_1 (
opP (pickA t72_1 (.bool true) undef) fun t76_1 =>
opP (pickA t76_1 (.bool true) undef) fun t80_1 =>
opP (pickA t80_1 (.bool true) undef) fun t86_1 =>
wIf t86_1 (
K (.bool false) H66) (
J_1 [(nth l 0), (nth l 1), (nth l 2), (nth l 3), (nth l 4), t42] H66)) (
opP ((binC P .neq 34 true).f t60 (.int .i64 0)) fun t75 =>
opP (pickA t72_1 (.bool true) t75) fun t76_2 =>
wIf t76_2 (
opP (pickA t76_2 (.bool true) undef) fun t80_2 =>
opP (pickA t80_2 (.bool true) undef) fun t86_2 =>
wIf t86_2 (
K (.bool false) H66) (
J_1 [(nth l 0), (nth l 1), (nth l 2), (nth l 3), (nth l 4), t42] H66)) (
opP ((binC P .neq 34 true).f t66 (.int .i64 0)) fun t79 =>
opP (pickA t76_2 (.bool true) t79) fun t80_3 =>
wIf t80_3 (
opP (pickA t80_3 (.bool true) undef) fun t86_3 =>
wIf t86_3 (
K (.bool false) H66) (
J_1 [(nth l 0), (nth l 1), (nth l 2), (nth l 3), (nth l 4), t42] H66)) (
opP (offPtr 72 (nth l 1)) fun t82 =>
opW (loadOne t82 H66) fun t83 H87 =>
opP ((binC P .neq 3 false).f t83 (nth l 4)) fun t85 =>
opP (pickA t80_3 (.bool true) t85) fun t86_4 =>
wIf t86_4 (
K (.bool false) H87) (
J_1 [(nth l 0), (nth l 1), (nth l 2), (nth l 3), (nth l 4), t42] H87)))))) (fun l_1 H91 =>
wLoop P true 182 law12_BootFalls_P0 64 [(nth l_1 0), (nth l_1 1), (nth l_1 2), (nth l_1 3), (nth l_1 4), (nth l_1 5), (.int .i64 0)] H91 (fun id l_2 H93 =>
cond (Nat.beq id 0) (
K (.bool true) H93) (
False)) (fun l_2 H93 =>
K (nth l_2 0) H93))))
theorem law12_BootFalls_eq (t0 t1 t2 : Value) (H : Heap) (K : Value → Heap → Prop) : vcF P n_law12_BootFalls [t0, t1, t2] H K = law12_BootFalls t0 t1 t2 H K := by kernel_rfl
theorem law12_BootFalls_ok {t0 t1 t2 : Value} {H : Heap} {K : Value → Heap → Prop} (h : law12_BootFalls t0 t1 t2 H K) : wCall P n_law12_BootFalls [t0, t1, t2] H K := wCall_of_vcF rfl ((law12_BootFalls_eq t0 t1 t2 H K).mpr h)

/-! bootjack/bootjacklaw12.BootGood -/
noncomputable abbrev law12_BootGood_P0 : Code := loopAt P n_law12_BootGood 0
/-- loop 0: goes on from the slots [2, 4, 34, 35, 36]; leaves [4] -/
def law12_BootGood_L0 (l : List Value) (H : Heap) (N : List Value → Heap → Prop) (Qx : Nat → List Value → Heap → Prop) (Qr : List Value → Heap → Prop) : Prop :=
opP ((binC P .lss 3 false).f (nth l 4) (nth l 3)) fun t37 =>
wIf t37 (
opP (idxSl 38 (nth l 2) (nth l 4)) fun t38 =>
opW (loadAgg 38 t38 H) fun t39 H3 =>
wNew (zc P 53) H3 fun t6 H5 =>
opW (storeTo 38 t6 t39 H5) fun u H7 =>
opW (loadAgg 75 (nth l 0) H7) fun t41 H9 =>
opW (loadAgg 75 (nth l 0) H9) fun t42 H11 =>
opW (loadAgg 38 t6 H11) fun t43 H13 =>
wCall P n_law12_changes [t42, t43] H13 fun t44 H15 =>
cSame (sameB H13 H15) (idsOf [(nth l 0)]) ∧ (wCall P n_table_Apply [t41, t44] H15 fun t45 H17 =>
opP (extA 0 t45) fun t46 =>
opP (extA 1 t45) fun t47 =>
wNew (zc P 29) H17 fun t7 H21 =>
opW (storeTo 75 t7 t46 H21) fun u_1 H23 =>
wJoin (fun J =>
opP ((binC P .neq 34 true).f t47 (.int .i64 0)) fun t49 =>
wIf t49 (
opP (pickA t49 (.bool true) undef) fun t63 =>
opP (pickA t63 (.bool true) undef) fun t70 =>
wIf t70 (
Qr [(.bool false)] H23) (
J [(nth l 0), (nth l 1), t7, (nth l 2), (nth l 3), (nth l 4)] H23)) (
opP (offPtr 0 t7) fun t51 =>
opP (idxPtr 2 36 t51 (.int .i64 0)) fun t52 =>
opP (offPtr 0 t52) fun t53 =>
opW (loadOne t53 H23) fun t54 H32 =>
opP ((binC P .neq 3 true).f t54 (.int .i64 3)) fun t55 =>
wIf t55 (
opP (offPtr 0 t7) fun t57 =>
opP (idxPtr 2 36 t57 (.int .i64 1)) fun t58 =>
opP (offPtr 0 t58) fun t59 =>
opW (loadOne t59 H32) fun t60 H38 =>
opP ((binC P .neq 3 true).f t60 (.int .i64 3)) fun t61 =>
opP (pickA t55 t61 (.bool false)) fun t62 =>
opP (pickA t49 (.bool true) t62) fun t63_1 =>
wIf t63_1 (
opP (pickA t63_1 (.bool true) undef) fun t70_1 =>
wIf t70_1 (
Qr [(.bool false)] H38) (
J [(nth l 0), (nth l 1), t7, (nth l 2), (nth l 3), (nth l 4)] H38)) (
opP (offPtr 74 t7) fun t65 =>
opW (loadOne t65 H38) fun t66 H45 =>
opP (offPtr 74 (nth l 0)) fun t67 =>
opW (loadOne t67 H45) fun t68 H48 =>
opP ((binC P .lss 22 false).f t66 t68) fun t69 =>
opP (pickA t63_1 (.bool true) t69) fun t70_2 =>
wIf t70_2 (
Qr [(.bool false)] H48) (
J [(nth l 0), (nth l 1), t7, (nth l 2), (nth l 3), (nth l 4)] H48))) (
opP (pickA t55 undef (.bool false)) fun t62_1 =>
opP (pickA t49 (.bool true) t62_1) fun t63_2 =>
opP (offPtr 74 t7) fun t65_1 =>
opW (loadOne t65_1 H32) fun t66_1 H55 =>
opP (offPtr 74 (nth l 0)) fun t67_1 =>
opW (loadOne t67_1 H55) fun t68_1 H58 =>
opP ((binC P .lss 22 false).f t66_1 t68_1) fun t69_1 =>
opP (pickA t63_2 (.bool true) t69_1) fun t70_3 =>
wIf t70_3 (
Qr [(.bool false)] H58) (
J [(nth l 0), (nth l 1), t7, (nth l 2), (nth l 3), (nth l 4)] H58)))) (fun l_1 H62 =>
opW (loadAgg 75 (nth l_1 2) H62) fun t71 H64 =>
wCall P n_boot_Pick [t71] H64 fun t72 H66 =>
wJoin (fun J_1 =>
opP ((binC P .neq 3 true).f t72 (.int .i64 0)) fun t74 =>
wIf t74 (
opP ((binC P .neq 3 true).f t72 (.int .i64 1)) fun t77 =>
opP (pickA t74 t77 (.bool false)) fun t78 =>
wIf t78 (
Qr [(.bool false)] H66) (
J_1 [(nth l_1 0), (nth l_1 1), (nth l_1 2), t72, (nth l_1 3), (nth l_1 4), (nth l_1 5)] H66)) (
opP (pickA t74 undef (.bool false)) fun t78_1 =>
wIf t78_1 (
Qr [(.bool false)] H66) (
J_1 [(nth l_1 0), (nth l_1 1), (nth l_1 2), t72, (nth l_1 3), (nth l_1 4), (nth l_1 5)] H66))) (fun l_2 H73 =>
opP (offPtr 0 (nth l_2 2)) fun t80 =>
opP (idxPtr 2 36 t80 (nth l_2 3)) fun t81 =>
opW (loadAgg 36 t81 H73) fun t82 H77 =>
wCall P n_ref10_Bootable [t82] H77 fun t83 H79 =>
opP (unA .not t83) fun t84 =>
wIf t84 (
Qr [(.bool false)] H79) (
opW (loadAgg 75 (nth l_2 2) H79) fun t85 H82 =>
opW (storeTo 75 (nth l_2 0) t85 H82) fun u_2 H84 =>
opP ((binC P .add 3 true).f (nth l_2 6) (.int .i64 1)) fun t86 =>
N [(nth l_2 0), (nth l_2 1), (nth l_2 4), (nth l_2 5), t86] H84))))) (
Qx 0 [(nth l 1)] H)
theorem law12_BootGood_L0_eq (l : List Value) (H : Heap) (N : List Value → Heap → Prop) (Qx : Nat → List Value → Heap → Prop) (Qr : List Value → Heap → Prop) : vcC P true 87 law12_BootGood_P0 (live law12_BootGood_P0 0 16) 16 (envOf (bits 87 (live law12_BootGood_P0 0 16)) l) H (loopQ 87 law12_BootGood_P0 16 N Qx Qr) = law12_BootGood_L0 l H N Qx Qr := by kernel_rfl
theorem law12_BootGood_L0_ind (I : Nat → List Value → Heap → Prop) (Qx : Nat → List Value → Heap → Prop) (Qr : List Value → Heap → Prop) (hs : ∀ k l H, I k l H → law12_BootGood_L0 l H (fun l H => ∃ k', k' < k ∧ I k' l H) Qx Qr) (k : Nat) (l : List Value) (H : Heap) (h : I k l H) : wLoop P true 87 law12_BootGood_P0 16 l H Qx Qr :=
  loop_ind (by kernel_rfl) I (fun k l H h => (law12_BootGood_L0_eq l H _ Qx Qr).mpr (hs k l H h)) k l H h
def law12_BootGood (t0 t1 : Value) (H : Heap) (K : Value → Heap → Prop) : Prop :=
wNew (cellsL t0) H fun t2 H1 =>
wCall P n_law12_bootAlive [] H1 fun t10 H3 =>
opP (unA .not t10) fun t11 =>
wIf t11 (
K (.bool false) H3) (
wJoin (fun J =>
opW (lenSl t1 H3) fun t13 H7 =>
opP ((binC P .gtr 3 true).f t13 (.int .i64 60)) fun t14 =>
wIf t14 (
opP (pickA t14 (.bool true) undef) fun t19 =>
opP (pickA t19 (.bool true) undef) fun t33 =>
wIf t33 (
K (.bool true) H7) (
J [t1, t2, (.bool false)] H7)) (
opW (loadAgg 75 t2 H7) fun t16 H12 =>
wCall P n_ref11_Right [t16] H12 fun t17 H14 =>
opP (unA .not t17) fun t18 =>
opP (pickA t14 (.bool true) t18) fun t19_1 =>
wIf t19_1 (
opP (pickA t19_1 (.bool true) undef) fun t33_1 =>
wIf t33_1 (
K (.bool true) H14) (
J [t1, t2, (.bool false)] H14)) (
opP (offPtr 0 t2) fun t21 =>
opP (idxPtr 2 36 t21 (.int .i64 0)) fun t22 =>
opP (offPtr 0 t22) fun t23 =>
opW (loadOne t23 H14) fun t24 H22 =>
opP ((binC P .neq 3 true).f t24 (.int .i64 3)) fun t25 =>
wIf t25 (
opP (offPtr 0 t2) fun t27 =>
opP (idxPtr 2 36 t27 (.int .i64 1)) fun t28 =>
opP (offPtr 0 t28) fun t29 =>
opW (loadOne t29 H22) fun t30 H28 =>
opP ((binC P .neq 3 true).f t30 (.int .i64 3)) fun t31 =>
opP (pickA t25 t31 (.bool false)) fun t32 =>
opP (pickA t19_1 (.bool true) t32) fun t33_2 =>
wIf t33_2 (
K (.bool true) H28) (
J [t1, t2, (.bool false)] H28)) (
opP (pickA t25 undef (.bool false)) fun t32_1 =>
opP (pickA t19_1 (.bool true) t32_1) fun t33_3 =>
wIf t33_3 (
K (.bool true) H22) (
J [t1, t2, (.bool false)] H22))))) (fun l H35 =>
opW (lenSl (nth l 0) H35) fun t35 H37 =>
wLoop P true 87 law12_BootGood_P0 16 [(nth l 1), (nth l 2), (nth l 0), t35, (.int .i64 0)] H37 (fun id l_1 H39 =>
cond (Nat.beq id 0) (
K (.bool true) H39) (
False)) (fun l_1 H39 =>
K (nth l_1 0) H39)))
theorem law12_BootGood_eq (t0 t1 : Value) (H : Heap) (K : Value → Heap → Prop) : vcF P n_law12_BootGood [t0, t1] H K = law12_BootGood t0 t1 H K := by kernel_rfl
theorem law12_BootGood_ok {t0 t1 : Value} {H : Heap} {K : Value → Heap → Prop} (h : law12_BootGood t0 t1 H K) : wCall P n_law12_BootGood [t0, t1] H K := wCall_of_vcF rfl ((law12_BootGood_eq t0 t1 H K).mpr h)

/-! bootjack/boot.Plan -/
def boot_Plan (t0 : Value) (H : Heap) (K : Value → Heap → Prop) : Prop :=
wNew (cellsL t0) H fun t1 H1 =>
opW (loadAgg 75 t1 H1) fun t13 H3 =>
wCall P n_boot_look [t13] H3 fun t14 H5 =>
opP (extA 0 t14) fun t15 =>
opP (extA 1 t14) fun t16 =>
wNew (zc P 60) H5 fun t4 H9 =>
opW (storeTo 75 t4 t15 H9) fun u H11 =>
wJoin (fun J =>
wIf t16 (
opW (loadAgg 75 t4 H11) fun t18 H14 =>
wCall P n_boot_view_pick [t18] H14 fun t19 H16 =>
J [t4, t19] H16) (
J [t4, (.int .i64 (-1))] H11)) (fun l H18 =>
opP ((binC P .eql 3 true).f (nth l 1) (.int .i64 (-1))) fun t21 =>
wIf t21 (
K (.tuple [(.int .i64 (-1)), (.slice none 0 0)].toArray) H18) (
wJoin (fun J_1 =>
opP (offPtr 0 (nth l 0)) fun t23 =>
opP (offPtr 72 t23) fun t24 =>
opW (loadOne t24 H18) fun t25 H24 =>
opP ((binC P .neq 3 false).f (nth l 1) t25) fun t26 =>
wIf t26 (
wJoin (fun J_2 =>
opW (loadAgg 75 (nth l 0) H24) fun t27 H28 =>
opP (offPtr 0 (nth l 0)) fun t28 =>
opP (offPtr 72 t28) fun t29 =>
opW (loadOne t29 H28) fun t30 H32 =>
wCall P n_boot_view_is [t27, t30, (.int .i64 2)] H32 fun t31 H34 =>
wIf t31 (
opP (offPtr 0 (nth l 0)) fun t33 =>
opP (offPtr 72 t33) fun t34 =>
opW (loadOne t34 H34) fun t35 H38 =>
opP (offPtr 0 (nth l 0)) fun t36 =>
opP (offPtr 0 t36) fun t37 =>
opP (idxPtr 2 36 t37 t35) fun t38 =>
opW (loadAgg 36 t38 H38) fun t39 H43 =>
wCall P n_slot_Bad [t39] H43 fun t40 H45 =>
opP (extA 0 t40) fun t41 =>
opP (extA 1 t40) fun t42 =>
wNew (zc P 26) H45 fun t8 H49 =>
opW (storeTo 36 t8 t41 H49) fun u_1 H51 =>
opP (offPtr 0 (nth l 0)) fun t44 =>
opP (offPtr 72 t44) fun t45 =>
opW (loadOne t45 H51) fun t46 H55 =>
opW (loadAgg 36 t8 H55) fun t47 H57 =>
wCall P n_boot_set [t46, t47] H57 fun t48 H59 =>
opW ((buildSliceC P 31 1).f [(0, t48)] H59) fun t49 H61 =>
opW (appendWith 40 96 (.slice none 0 0) t49 H61) fun t50 H63 =>
J_2 [(nth l 0), (nth l 1), t50] H63) (
J_2 [(nth l 0), (nth l 1), (.slice none 0 0)] H34)) (fun l_1 H65 =>
wCall P n_boot_active [(nth l_1 1)] H65 fun t53 H67 =>
opW ((buildSliceC P 31 1).f [(0, t53)] H67) fun t54 H69 =>
opW (appendWith 40 96 (nth l_1 2) t54 H69) fun t55 H71 =>
J_1 [(nth l_1 0), (nth l_1 1), t55] H71)) (
J_1 [(nth l 0), (nth l 1), (.slice none 0 0)] H24)) (fun l_2 H73 =>
wJoin (fun J_3 =>
opW (loadAgg 75 (nth l_2 0) H73) fun t56 H76 =>
wCall P n_boot_view_is [t56, (nth l_2 1), (.int .i64 2)] H76 fun t58 H78 =>
wIf t58 (
opP (offPtr 0 (nth l_2 0)) fun t61 =>
opP (offPtr 0 t61) fun t62 =>
opP (idxPtr 2 36 t62 (nth l_2 1)) fun t63 =>
opW (loadAgg 36 t63 H78) fun t64 H83 =>
wCall P n_slot_Try [t64] H83 fun t65 H85 =>
opP (extA 0 t65) fun t66 =>
opP (extA 1 t65) fun t67 =>
wNew (zc P 26) H85 fun t10 H89 =>
opW (storeTo 36 t10 t66 H89) fun u_2 H91 =>
opW (loadAgg 36 t10 H91) fun t70 H93 =>
wCall P n_boot_set [(nth l_2 1), t70] H93 fun t71 H95 =>
opW ((buildSliceC P 31 1).f [(0, t71)] H95) fun t72 H97 =>
opW (appendWith 40 96 (nth l_2 2) t72 H97) fun t73 H99 =>
J_3 [(nth l_2 1), t73] H99) (
J_3 [(nth l_2 1), (nth l_2 2)] H78)) (fun l_3 H101 =>
opP ((buildC P 58).f [(0, (.int .i64 3)), (2, (nth l_3 0))]) fun t77 =>
opW ((buildSliceC P 31 1).f [(0, t77)] H101) fun t78 H104 =>
opW (appendWith 40 96 (nth l_3 1) t78 H104) fun t79 H106 =>
K (.tuple [(nth l_3 0), t79].toArray) H106))))
theorem boot_Plan_eq (t0 : Value) (H : Heap) (K : Value → Heap → Prop) : vcF P n_boot_Plan [t0] H K = boot_Plan t0 H K := by kernel_rfl
theorem boot_Plan_ok {t0 : Value} {H : Heap} {K : Value → Heap → Prop} (h : boot_Plan t0 H K) : wCall P n_boot_Plan [t0] H K := wCall_of_vcF rfl ((boot_Plan_eq t0 H K).mpr h)

/-! bootjack/bootjackref12.Plan -/
def ref12_Plan (t0 : Value) (H : Heap) (K : Value → Heap → Prop) : Prop :=
wNew (cellsL t0) H fun t1 H1 =>
opW (loadAgg 75 t1 H1) fun t10 H3 =>
wCall P n_ref12_Pick [t10] H3 fun t11 H5 =>
opW ((buildSliceC P 31 0).f [] H5) fun t12 H7 =>
opP ((binC P .eql 3 true).f t11 (.int .i64 (-1))) fun t14 =>
wIf t14 (
K (.tuple [t11, t12].toArray) H7) (
wJoin (fun J =>
opP (offPtr 72 t1) fun t18 =>
opW (loadOne t18 H7) fun t19 H12 =>
opP ((binC P .neq 3 false).f t11 t19) fun t20 =>
wIf t20 (
opP (offPtr 72 t1) fun t22 =>
opW (loadOne t22 H12) fun t23 H16 =>
opP (offPtr 0 t1) fun t24 =>
opP (idxPtr 2 36 t24 t23) fun t25 =>
opW (loadAgg 36 t25 H16) fun t26 H20 =>
wCall P n_ref10_Bad [t26] H20 fun t27 H22 =>
opP (extA 0 t27) fun t28 =>
opP (extA 1 t27) fun t29 =>
wNew (zc P 26) H22 fun t6 H26 =>
opW (storeTo 36 t6 t28 H26) fun u H28 =>
wJoin (fun J_1 =>
wJoin (fun J_2 =>
opP (offPtr 72 t1) fun t30 =>
opW (loadOne t30 H28) fun t31 H33 =>
opP (offPtr 0 t1) fun t32 =>
opP (idxPtr 2 36 t32 t31) fun t33 =>
opP (offPtr 0 t33) fun t34 =>
opW (loadOne t34 H33) fun t35 H38 =>
opP ((binC P .eql 3 true).f t35 (.int .i64 2)) fun t36 =>
wIf t36 (
opP ((binC P .eql 3 true).f t29 (.int .i64 0)) fun t39 =>
opP (pickA t36 t39 (.bool false)) fun t40 =>
J_2 [t1, t11, t12, t6, t40] H38) (
opP (pickA t36 undef (.bool false)) fun t40_1 =>
J_2 [t1, t11, t12, t6, t40_1] H38)) (fun l H44 =>
wIf (nth l 4) (
opP (offPtr 72 (nth l 0)) fun t42 =>
opW (loadOne t42 H44) fun t43 H47 =>
opW (loadAgg 36 (nth l 3) H47) fun t44 H49 =>
opP ((buildC P 58).f [(0, (.int .i64 1)), (1, t43), (3, t44)]) fun t45 =>
opW ((buildSliceC P 31 1).f [(0, t45)] H49) fun t46 H52 =>
opW (appendWith 40 96 (nth l 2) t46 H52) fun t47 H54 =>
J_1 [(nth l 0), (nth l 1), t47] H54) (
J_1 [(nth l 0), (nth l 1), (nth l 2)] H44))) (fun l_1 H56 =>
opP ((buildC P 58).f [(0, (.int .i64 2)), (2, (nth l_1 1))]) fun t50 =>
opW ((buildSliceC P 31 1).f [(0, t50)] H56) fun t51 H59 =>
opW (appendWith 40 96 (nth l_1 2) t51 H59) fun t52 H61 =>
J [(nth l_1 0), (nth l_1 1), t52] H61)) (
J [t1, t11, t12] H12)) (fun l_2 H63 =>
wJoin (fun J_3 =>
opP (offPtr 0 (nth l_2 0)) fun t54 =>
opP (idxPtr 2 36 t54 (nth l_2 1)) fun t55 =>
opP (offPtr 0 t55) fun t56 =>
opW (loadOne t56 H63) fun t57 H69 =>
opP ((binC P .eql 3 true).f t57 (.int .i64 2)) fun t58 =>
wIf t58 (
opP (offPtr 0 (nth l_2 0)) fun t61 =>
opP (idxPtr 2 36 t61 (nth l_2 1)) fun t62 =>
opW (loadAgg 36 t62 H69) fun t63 H74 =>
wCall P n_ref10_Try [t63] H74 fun t64 H76 =>
opP (extA 0 t64) fun t65 =>
opP (extA 1 t64) fun t66 =>
wNew (zc P 26) H76 fun t8 H80 =>
opW (storeTo 36 t8 t65 H80) fun u_1 H82 =>
opW (loadAgg 36 t8 H82) fun t69 H84 =>
opP ((buildC P 58).f [(0, (.int .i64 1)), (1, (nth l_2 1)), (3, t69)]) fun t70 =>
opW ((buildSliceC P 31 1).f [(0, t70)] H84) fun t71 H87 =>
opW (appendWith 40 96 (nth l_2 2) t71 H87) fun t72 H89 =>
J_3 [(nth l_2 1), t72] H89) (
J_3 [(nth l_2 1), (nth l_2 2)] H69)) (fun l_3 H91 =>
opP ((buildC P 58).f [(0, (.int .i64 3)), (2, (nth l_3 0))]) fun t75 =>
opW ((buildSliceC P 31 1).f [(0, t75)] H91) fun t76 H94 =>
opW (appendWith 40 96 (nth l_3 1) t76 H94) fun t77 H96 =>
K (.tuple [(nth l_3 0), t77].toArray) H96)))
theorem ref12_Plan_eq (t0 : Value) (H : Heap) (K : Value → Heap → Prop) : vcF P n_ref12_Plan [t0] H K = ref12_Plan t0 H K := by kernel_rfl
theorem ref12_Plan_ok {t0 : Value} {H : Heap} {K : Value → Heap → Prop} (h : ref12_Plan t0 H K) : wCall P n_ref12_Plan [t0] H K := wCall_of_vcF rfl ((ref12_Plan_eq t0 H K).mpr h)

/-! bootjack/boot.Wipe -/
def boot_Wipe (t0 : Value) (H : Heap) (K : Value → Heap → Prop) : Prop :=
wNew (cellsL t0) H fun t1 H1 =>
opW (loadAgg 75 t1 H1) fun t5 H3 =>
wCall P n_boot_Aim [t5] H3 fun t6 H5 =>
opP ((binC P .eql 3 true).f t6 (.int .i64 (-1))) fun t8 =>
wIf t8 (
K (.tuple [(.slice none 0 0), (.int .i64 101)].toArray) H5) (
opP ((buildC P 26).f [(0, (.int .i64 1))]) fun t10 =>
wCall P n_boot_set [t6, t10] H5 fun t11 H9 =>
opW ((buildSliceC P 31 1).f [(0, t11)] H9) fun t12 H11 =>
K (.tuple [t12, (.int .i64 0)].toArray) H11)
theorem boot_Wipe_eq (t0 : Value) (H : Heap) (K : Value → Heap → Prop) : vcF P n_boot_Wipe [t0] H K = boot_Wipe t0 H K := by kernel_rfl
theorem boot_Wipe_ok {t0 : Value} {H : Heap} {K : Value → Heap → Prop} (h : boot_Wipe t0 H K) : wCall P n_boot_Wipe [t0] H K := wCall_of_vcF rfl ((boot_Wipe_eq t0 H K).mpr h)

/-! bootjack/bootjackref12.Wipe -/
def ref12_Wipe (t0 : Value) (H : Heap) (K : Value → Heap → Prop) : Prop :=
wNew (cellsL t0) H fun t1 H1 =>
opW (loadAgg 75 t1 H1) fun t4 H3 =>
wCall P n_ref12_Aim [t4] H3 fun t5 H5 =>
opP ((binC P .eql 3 true).f t5 (.int .i64 (-1))) fun t6 =>
wIf t6 (
K (.tuple [(.slice none 0 0), (.int .i64 101)].toArray) H5) (
opW (loadAgg 75 t1 H5) fun t7 H8 =>
wCall P n_ref12_Aim [t7] H8 fun t8 H10 =>
opP ((buildC P 26).f [(0, (.int .i64 1))]) fun t9 =>
opP ((buildC P 58).f [(0, (.int .i64 1)), (1, t8), (3, t9)]) fun t10 =>
opW ((buildSliceC P 31 1).f [(0, t10)] H10) fun t11 H14 =>
K (.tuple [t11, (.int .i64 0)].toArray) H14)
theorem ref12_Wipe_eq (t0 : Value) (H : Heap) (K : Value → Heap → Prop) : vcF P n_ref12_Wipe [t0] H K = ref12_Wipe t0 H K := by kernel_rfl
theorem ref12_Wipe_ok {t0 : Value} {H : Heap} {K : Value → Heap → Prop} (h : ref12_Wipe t0 H K) : wCall P n_ref12_Wipe [t0] H K := wCall_of_vcF rfl ((ref12_Wipe_eq t0 H K).mpr h)

/-! bootjack/bootjacklaw12.same -/
noncomputable abbrev law12_same_P0 : Code := loopAt P n_law12_same 0
/-- loop 0: goes on from the slots [0, 1, 4, 12, 13]; leaves [4] -/
def law12_same_L0 (l : List Value) (H : Heap) (N : List Value → Heap → Prop) (Qx : Nat → List Value → Heap → Prop) (Qr : List Value → Heap → Prop) : Prop :=
opP ((binC P .lss 3 false).f (nth l 4) (nth l 3)) fun t14 =>
wIf t14 (
opP (idxSl 40 (nth l 0) (nth l 4)) fun t18 =>
opW (loadAgg 40 t18 H) fun t19 H3 =>
opP (idxSl 40 (nth l 1) (nth l 4)) fun t22 =>
opW (loadAgg 40 t22 H3) fun t23 H6 =>
opP ((binC P .neq 58 false).f t19 t23) fun t24 =>
wIf t24 (
Qr [(.bool false)] H6) (
opP ((binC P .add 3 true).f (nth l 4) (.int .i64 1)) fun t25 =>
N [(nth l 0), (nth l 1), (nth l 2), (nth l 3), t25] H6)) (
Qx 0 [(nth l 2)] H)
theorem law12_same_L0_eq (l : List Value) (H : Heap) (N : List Value → Heap → Prop) (Qx : Nat → List Value → Heap → Prop) (Qr : List Value → Heap → Prop) : vcC P true 26 law12_same_P0 (live law12_same_P0 0 16) 16 (envOf (bits 26 (live law12_same_P0 0 16)) l) H (loopQ 26 law12_same_P0 16 N Qx Qr) = law12_same_L0 l H N Qx Qr := by kernel_rfl
theorem law12_same_L0_ind (I : Nat → List Value → Heap → Prop) (Qx : Nat → List Value → Heap → Prop) (Qr : List Value → Heap → Prop) (hs : ∀ k l H, I k l H → law12_same_L0 l H (fun l H => ∃ k', k' < k ∧ I k' l H) Qx Qr) (k : Nat) (l : List Value) (H : Heap) (h : I k l H) : wLoop P true 26 law12_same_P0 16 l H Qx Qr :=
  loop_ind (by kernel_rfl) I (fun k l H h => (law12_same_L0_eq l H _ Qx Qr).mpr (hs k l H h)) k l H h
def law12_same (t0 t1 : Value) (H : Heap) (K : Value → Heap → Prop) : Prop :=
opW (lenSl t0 H) fun t7 H1 =>
opW (lenSl t1 H1) fun t9 H3 =>
opP ((binC P .neq 3 false).f t7 t9) fun t10 =>
wIf t10 (
K (.bool false) H3) (
opW (lenSl t0 H3) fun t12 H6 =>
wLoop P true 26 law12_same_P0 16 [t0, t1, (.bool false), t12, (.int .i64 0)] H6 (fun id l H8 =>
cond (Nat.beq id 0) (
K (.bool true) H8) (
False)) (fun l H8 =>
K (nth l 0) H8))
theorem law12_same_eq (t0 t1 : Value) (H : Heap) (K : Value → Heap → Prop) : vcF P n_law12_same [t0, t1] H K = law12_same t0 t1 H K := by kernel_rfl
theorem law12_same_ok {t0 t1 : Value} {H : Heap} {K : Value → Heap → Prop} (h : law12_same t0 t1 H K) : wCall P n_law12_same [t0, t1] H K := wCall_of_vcF rfl ((law12_same_eq t0 t1 H K).mpr h)

/-! bootjack/boot.Pick -/
def boot_Pick (t0 : Value) (H : Heap) (K : Value → Heap → Prop) : Prop :=
wNew (cellsL t0) H fun t1 H1 =>
opW (loadAgg 75 t1 H1) fun t6 H3 =>
wCall P n_boot_look [t6] H3 fun t7 H5 =>
opP (extA 0 t7) fun t8 =>
opP (extA 1 t7) fun t9 =>
wNew (zc P 60) H5 fun t3 H9 =>
opW (storeTo 75 t3 t8 H9) fun u H11 =>
opP (unA .not t9) fun t11 =>
wIf t11 (
K (.int .i64 (-1)) H11) (
opW (loadAgg 75 t3 H11) fun t12 H14 =>
wCall P n_boot_view_pick [t12] H14 fun t13 H16 =>
K t13 H16)
theorem boot_Pick_eq (t0 : Value) (H : Heap) (K : Value → Heap → Prop) : vcF P n_boot_Pick [t0] H K = boot_Pick t0 H K := by kernel_rfl
theorem boot_Pick_ok {t0 : Value} {H : Heap} {K : Value → Heap → Prop} (h : boot_Pick t0 H K) : wCall P n_boot_Pick [t0] H K := wCall_of_vcF rfl ((boot_Pick_eq t0 H K).mpr h)

/-! bootjack/bootjackref12.Pick -/
def ref12_Pick (t0 : Value) (H : Heap) (K : Value → Heap → Prop) : Prop :=
wNew (cellsL t0) H fun t1 H1 =>
opW (loadAgg 75 t1 H1) fun t3 H3 =>
wCall P n_ref11_Right [t3] H3 fun t4 H5 =>
opP (unA .not t4) fun t5 =>
wIf t5 (
K (.int .i64 (-1)) H5) (
opP (offPtr 72 t1) fun t6 =>
opW (loadOne t6 H5) fun t7 H9 =>
opP (offPtr 0 t1) fun t8 =>
opP (idxPtr 2 36 t8 t7) fun t9 =>
opW (loadAgg 36 t9 H9) fun t10 H13 =>
wCall P n_ref10_Bootable [t10] H13 fun t11 H15 =>
wIf t11 (
opP (offPtr 72 t1) fun t12 =>
opW (loadOne t12 H15) fun t13 H18 =>
K t13 H18) (
opP (offPtr 72 t1) fun t14 =>
opW (loadOne t14 H15) fun t15 H21 =>
opP ((binC P .sub 3 true).f (.int .i64 1) t15) fun t16 =>
opP (offPtr 0 t1) fun t17 =>
opP (idxPtr 2 36 t17 t16) fun t18 =>
opW (loadAgg 36 t18 H21) fun t19 H26 =>
wCall P n_ref10_Bootable [t19] H26 fun t20 H28 =>
wIf t20 (
opP (offPtr 72 t1) fun t21 =>
opW (loadOne t21 H28) fun t22 H31 =>
opP ((binC P .sub 3 true).f (.int .i64 1) t22) fun t23 =>
K t23 H31) (
K (.int .i64 (-1)) H28)))
theorem ref12_Pick_eq (t0 : Value) (H : Heap) (K : Value → Heap → Prop) : vcF P n_ref12_Pick [t0] H K = ref12_Pick t0 H K := by kernel_rfl
theorem ref12_Pick_ok {t0 : Value} {H : Heap} {K : Value → Heap → Prop} (h : ref12_Pick t0 H K) : wCall P n_ref12_Pick [t0] H K := wCall_of_vcF rfl ((ref12_Pick_eq t0 H K).mpr h)

/-! bootjack/boot.Aim -/
def boot_Aim (t0 : Value) (H : Heap) (K : Value → Heap → Prop) : Prop :=
wNew (cellsL t0) H fun t1 H1 =>
opW (loadAgg 75 t1 H1) fun t6 H3 =>
wCall P n_boot_look [t6] H3 fun t7 H5 =>
opP (extA 0 t7) fun t8 =>
opP (extA 1 t7) fun t9 =>
wNew (zc P 60) H5 fun t3 H9 =>
opW (storeTo 75 t3 t8 H9) fun u H11 =>
opP (unA .not t9) fun t11 =>
wIf t11 (
opP (pickA t11 (.bool true) undef) fun t20 =>
opP (pickA t20 (.bool true) undef) fun t28 =>
wIf t28 (
K (.int .i64 (-1)) H11) (
opW (loadAgg 75 t3 H11) fun t29 H16 =>
wCall P n_boot_view_other [t29] H16 fun t30 H18 =>
K t30 H18)) (
opP (offPtr 0 t3) fun t13 =>
opP (offPtr 72 t13) fun t14 =>
opW (loadOne t14 H11) fun t15 H22 =>
opP (offPtr 0 t3) fun t16 =>
opP (offPtr 73 t16) fun t17 =>
opW (loadOne t17 H22) fun t18 H26 =>
opP ((binC P .neq 3 false).f t15 t18) fun t19 =>
opP (pickA t11 (.bool true) t19) fun t20_1 =>
wIf t20_1 (
opP (pickA t20_1 (.bool true) undef) fun t28_1 =>
wIf t28_1 (
K (.int .i64 (-1)) H26) (
opW (loadAgg 75 t3 H26) fun t29_1 H31 =>
wCall P n_boot_view_other [t29_1] H31 fun t30_1 H33 =>
K t30_1 H33)) (
opW (loadAgg 75 t3 H26) fun t22 H35 =>
opP (offPtr 0 t3) fun t23 =>
opP (offPtr 72 t23) fun t24 =>
opW (loadOne t24 H35) fun t25 H39 =>
wCall P n_boot_view_is [t22, t25, (.int .i64 3)] H39 fun t26 H41 =>
opP (unA .not t26) fun t27 =>
opP (pickA t20_1 (.bool true) t27) fun t28_2 =>
wIf t28_2 (
K (.int .i64 (-1)) H41) (
opW (loadAgg 75 t3 H41) fun t29_2 H45 =>
wCall P n_boot_view_other [t29_2] H45 fun t30_2 H47 =>
K t30_2 H47)))
theorem boot_Aim_eq (t0 : Value) (H : Heap) (K : Value → Heap → Prop) : vcF P n_boot_Aim [t0] H K = boot_Aim t0 H K := by kernel_rfl
theorem boot_Aim_ok {t0 : Value} {H : Heap} {K : Value → Heap → Prop} (h : boot_Aim t0 H K) : wCall P n_boot_Aim [t0] H K := wCall_of_vcF rfl ((boot_Aim_eq t0 H K).mpr h)

/-! bootjack/bootjackref12.Aim -/
def ref12_Aim (t0 : Value) (H : Heap) (K : Value → Heap → Prop) : Prop :=
wNew (cellsL t0) H fun t1 H1 =>
wJoin (fun J =>
opW (loadAgg 75 t1 H1) fun t3 H4 =>
wCall P n_ref11_Right [t3] H4 fun t4 H6 =>
wIf t4 (
opP (offPtr 73 t1) fun t6 =>
opW (loadOne t6 H6) fun t7 H9 =>
opP (offPtr 72 t1) fun t8 =>
opW (loadOne t8 H9) fun t9 H12 =>
opP ((binC P .eql 3 false).f t7 t9) fun t10 =>
opP (pickA t4 t10 (.bool false)) fun t11 =>
wIf t11 (
opP (offPtr 72 t1) fun t13 =>
opW (loadOne t13 H12) fun t14 H17 =>
opP (offPtr 0 t1) fun t15 =>
opP (idxPtr 2 36 t15 t14) fun t16 =>
opP (offPtr 0 t16) fun t17 =>
opW (loadOne t17 H17) fun t18 H22 =>
opP ((binC P .eql 3 true).f t18 (.int .i64 3)) fun t19 =>
opP (pickA t11 t19 (.bool false)) fun t20 =>
J [t1, t20] H22) (
opP (pickA t11 undef (.bool false)) fun t20_1 =>
J [t1, t20_1] H12)) (
opP (pickA t4 undef (.bool false)) fun t11_1 =>
opP (pickA t11_1 undef (.bool false)) fun t20_2 =>
J [t1, t20_2] H6)) (fun l H29 =>
wIf (nth l 1) (
opP (offPtr 72 (nth l 0)) fun t21 =>
opW (loadOne t21 H29) fun t22 H32 =>
opP ((binC P .sub 3 true).f (.int .i64 1) t22) fun t23 =>
K t23 H32) (
K (.int .i64 (-1)) H29))
theorem ref12_Aim_eq (t0 : Value) (H : Heap) (K : Value → Heap → Prop) : vcF P n_ref12_Aim [t0] H K = ref12_Aim t0 H K := by kernel_rfl
theorem ref12_Aim_ok {t0 : Value} {H : Heap} {K : Value → Heap → Prop} (h : ref12_Aim t0 H K) : wCall P n_ref12_Aim [t0] H K := wCall_of_vcF rfl ((ref12_Aim_eq t0 H K).mpr h)

/-! bootjack/boot.Land -/
def boot_Land (t0 t1 t2 : Value) (H : Heap) (K : Value → Heap → Prop) : Prop :=
wNew (cellsL t0) H fun t3 H1 =>
wNew (cellsL t2) H1 fun t5 H3 =>
opW (loadAgg 75 t3 H3) fun t11 H5 =>
wCall P n_boot_look [t11] H5 fun t12 H7 =>
opP (extA 0 t12) fun t13 =>
opP (extA 1 t12) fun t14 =>
wNew (zc P 60) H7 fun t8 H11 =>
opW (storeTo 75 t8 t13 H11) fun u H13 =>
wJoin (fun J =>
opP (unA .not t14) fun t16 =>
wIf t16 (
opP (pickA t16 (.bool true) undef) fun t21 =>
opP (pickA t21 (.bool true) undef) fun t28 =>
opP (pickA t28 (.bool true) undef) fun t34 =>
opP (pickA t34 (.bool true) undef) fun t39 =>
opP (pickA t39 (.bool true) undef) fun t44 =>
J [t1, t5, t44] H13) (
wCall P n_boot_has [t1] H13 fun t19 H22 =>
opP (unA .not t19) fun t20 =>
opP (pickA t16 (.bool true) t20) fun t21_1 =>
wIf t21_1 (
opP (pickA t21_1 (.bool true) undef) fun t28_1 =>
opP (pickA t28_1 (.bool true) undef) fun t34_1 =>
opP (pickA t34_1 (.bool true) undef) fun t39_1 =>
opP (pickA t39_1 (.bool true) undef) fun t44_1 =>
J [t1, t5, t44_1] H22) (
opP (offPtr 0 t8) fun t24 =>
opP (offPtr 72 t24) fun t25 =>
opW (loadOne t25 H22) fun t26 H32 =>
opP ((binC P .eql 3 false).f t1 t26) fun t27 =>
opP (pickA t21_1 (.bool true) t27) fun t28_2 =>
wIf t28_2 (
opP (pickA t28_2 (.bool true) undef) fun t34_2 =>
opP (pickA t34_2 (.bool true) undef) fun t39_2 =>
opP (pickA t39_2 (.bool true) undef) fun t44_2 =>
J [t1, t5, t44_2] H32) (
opW (loadAgg 75 t8 H32) fun t30 H39 =>
wCall P n_boot_view_is [t30, t1, (.int .i64 1)] H39 fun t32 H41 =>
opP (unA .not t32) fun t33 =>
opP (pickA t28_2 (.bool true) t33) fun t34_3 =>
wIf t34_3 (
opP (pickA t34_3 (.bool true) undef) fun t39_3 =>
opP (pickA t39_3 (.bool true) undef) fun t44_3 =>
J [t1, t5, t44_3] H41) (
opW (loadAgg 36 t5 H41) fun t36 H47 =>
wCall P n_slot_Right [t36] H47 fun t37 H49 =>
opP (unA .not t37) fun t38 =>
opP (pickA t34_3 (.bool true) t38) fun t39_4 =>
wIf t39_4 (
opP (pickA t39_4 (.bool true) undef) fun t44_4 =>
J [t1, t5, t44_4] H49) (
opP (offPtr 0 t5) fun t41 =>
opW (loadOne t41 H49) fun t42 H55 =>
opP ((binC P .neq 3 true).f t42 (.int .i64 2)) fun t43 =>
opP (pickA t39_4 (.bool true) t43) fun t44_5 =>
J [t1, t5, t44_5] H55)))))) (fun l H59 =>
wIf (nth l 2) (
K (.tuple [(.slice none 0 0), (.int .i64 101)].toArray) H59) (
opW (loadAgg 36 (nth l 1) H59) fun t46 H61 =>
wCall P n_boot_set [(nth l 0), t46] H61 fun t47 H63 =>
wCall P n_boot_active [(nth l 0)] H63 fun t49 H65 =>
opW ((buildSliceC P 31 2).f [(0, t47), (1, t49)] H65) fun t50 H67 =>
K (.tuple [t50, (.int .i64 0)].toArray) H67))
theorem boot_Land_eq (t0 t1 t2 : Value) (H : Heap) (K : Value → Heap → Prop) : vcF P n_boot_Land [t0, t1, t2] H K = boot_Land t0 t1 t2 H K := by kernel_rfl
theorem boot_Land_ok {t0 t1 t2 : Value} {H : Heap} {K : Value → Heap → Prop} (h : boot_Land t0 t1 t2 H K) : wCall P n_boot_Land [t0, t1, t2] H K := wCall_of_vcF rfl ((boot_Land_eq t0 t1 t2 H K).mpr h)

/-! bootjack/bootjackref12.Land -/
def ref12_Land (t0 t1 t2 : Value) (H : Heap) (K : Value → Heap → Prop) : Prop :=
wNew (cellsL t0) H fun t3 H1 =>
wNew (cellsL t2) H1 fun t5 H3 =>
wJoin (fun J =>
opW (loadAgg 75 t3 H3) fun t8 H6 =>
wCall P n_ref11_Right [t8] H6 fun t9 H8 =>
opP (unA .not t9) fun t10 =>
wIf t10 (
opP (pickA t10 (.bool true) undef) fun t14 =>
opP (pickA t14 (.bool true) undef) fun t18 =>
opP (pickA t18 (.bool true) undef) fun t24 =>
opP (pickA t24 (.bool true) undef) fun t32 =>
opP (pickA t32 (.bool true) undef) fun t37 =>
opP (pickA t37 (.bool true) undef) fun t42 =>
J [t1, t5, t42] H8) (
opP ((binC P .lss 3 true).f t1 (.int .i64 0)) fun t13 =>
opP (pickA t10 (.bool true) t13) fun t14_1 =>
wIf t14_1 (
opP (pickA t14_1 (.bool true) undef) fun t18_1 =>
opP (pickA t18_1 (.bool true) undef) fun t24_1 =>
opP (pickA t24_1 (.bool true) undef) fun t32_1 =>
opP (pickA t32_1 (.bool true) undef) fun t37_1 =>
opP (pickA t37_1 (.bool true) undef) fun t42_1 =>
J [t1, t5, t42_1] H8) (
opP ((binC P .gtr 3 true).f t1 (.int .i64 1)) fun t17 =>
opP (pickA t14_1 (.bool true) t17) fun t18_2 =>
wIf t18_2 (
opP (pickA t18_2 (.bool true) undef) fun t24_2 =>
opP (pickA t24_2 (.bool true) undef) fun t32_2 =>
opP (pickA t32_2 (.bool true) undef) fun t37_2 =>
opP (pickA t37_2 (.bool true) undef) fun t42_2 =>
J [t1, t5, t42_2] H8) (
opP (offPtr 72 t3) fun t21 =>
opW (loadOne t21 H8) fun t22 H31 =>
opP ((binC P .eql 3 false).f t1 t22) fun t23 =>
opP (pickA t18_2 (.bool true) t23) fun t24_3 =>
wIf t24_3 (
opP (pickA t24_3 (.bool true) undef) fun t32_3 =>
opP (pickA t32_3 (.bool true) undef) fun t37_3 =>
opP (pickA t37_3 (.bool true) undef) fun t42_3 =>
J [t1, t5, t42_3] H31) (
opP (offPtr 0 t3) fun t27 =>
opP (idxPtr 2 36 t27 t1) fun t28 =>
opP (offPtr 0 t28) fun t29 =>
opW (loadOne t29 H31) fun t30 H41 =>
opP ((binC P .neq 3 true).f t30 (.int .i64 1)) fun t31 =>
opP (pickA t24_3 (.bool true) t31) fun t32_4 =>
wIf t32_4 (
opP (pickA t32_4 (.bool true) undef) fun t37_4 =>
opP (pickA t37_4 (.bool true) undef) fun t42_4 =>
J [t1, t5, t42_4] H41) (
opP (offPtr 0 t5) fun t34 =>
opW (loadOne t34 H41) fun t35 H48 =>
opP ((binC P .neq 3 true).f t35 (.int .i64 2)) fun t36 =>
opP (pickA t32_4 (.bool true) t36) fun t37_5 =>
wIf t37_5 (
opP (pickA t37_5 (.bool true) undef) fun t42_5 =>
J [t1, t5, t42_5] H48) (
opW (loadAgg 36 t5 H48) fun t39 H53 =>
wCall P n_ref10_Right [t39] H53 fun t40 H55 =>
opP (unA .not t40) fun t41 =>
opP (pickA t37_5 (.bool true) t41) fun t42_6 =>
J [t1, t5, t42_6] H55))))))) (fun l H59 =>
wIf (nth l 2) (
K (.tuple [(.slice none 0 0), (.int .i64 101)].toArray) H59) (
opW (loadAgg 36 (nth l 1) H59) fun t44 H61 =>
opP ((buildC P 58).f [(0, (.int .i64 1)), (1, (nth l 0)), (3, t44)]) fun t45 =>
opP ((buildC P 58).f [(0, (.int .i64 2)), (2, (nth l 0))]) fun t47 =>
opW ((buildSliceC P 31 2).f [(0, t45), (1, t47)] H61) fun t48 H65 =>
K (.tuple [t48, (.int .i64 0)].toArray) H65))
theorem ref12_Land_eq (t0 t1 t2 : Value) (H : Heap) (K : Value → Heap → Prop) : vcF P n_ref12_Land [t0, t1, t2] H K = ref12_Land t0 t1 t2 H K := by kernel_rfl
theorem ref12_Land_ok {t0 t1 t2 : Value} {H : Heap} {K : Value → Heap → Prop} (h : ref12_Land t0 t1 t2 H K) : wCall P n_ref12_Land [t0, t1, t2] H K := wCall_of_vcF rfl ((ref12_Land_eq t0 t1 t2 H K).mpr h)

/-! bootjack/boot.Good -/
def boot_Good (t0 t1 : Value) (H : Heap) (K : Value → Heap → Prop) : Prop :=
wNew (cellsL t0) H fun t2 H1 =>
opW (loadAgg 75 t2 H1) fun t12 H3 =>
wCall P n_boot_look [t12] H3 fun t13 H5 =>
opP (extA 0 t13) fun t14 =>
opP (extA 1 t13) fun t15 =>
wNew (zc P 60) H5 fun t6 H9 =>
opW (storeTo 75 t6 t14 H9) fun u H11 =>
wJoin (fun J =>
opP (unA .not t15) fun t17 =>
wIf t17 (
opP (pickA t17 (.bool true) undef) fun t22 =>
opP (pickA t22 (.bool true) undef) fun t29 =>
J [t1, t6, t29] H11) (
wCall P n_boot_has [t1] H11 fun t20 H17 =>
opP (unA .not t20) fun t21 =>
opP (pickA t17 (.bool true) t21) fun t22_1 =>
wIf t22_1 (
opP (pickA t22_1 (.bool true) undef) fun t29_1 =>
J [t1, t6, t29_1] H17) (
opP (offPtr 0 t6) fun t25 =>
opP (offPtr 73 t25) fun t26 =>
opW (loadOne t26 H17) fun t27 H24 =>
opP ((binC P .neq 3 false).f t1 t27) fun t28 =>
opP (pickA t22_1 (.bool true) t28) fun t29_2 =>
J [t1, t6, t29_2] H24))) (fun l H28 =>
wIf (nth l 2) (
K (.tuple [(.slice none 0 0), (.int .i64 101)].toArray) H28) (
opP (offPtr 0 (nth l 1)) fun t32 =>
opP (offPtr 0 t32) fun t33 =>
opP (idxPtr 2 36 t33 (nth l 0)) fun t34 =>
opW (loadAgg 36 t34 H28) fun t35 H33 =>
wCall P n_slot_Good [t35] H33 fun t36 H35 =>
opP (extA 0 t36) fun t37 =>
opP (extA 1 t36) fun t38 =>
wNew (zc P 26) H35 fun t8 H39 =>
opW (storeTo 36 t8 t37 H39) fun u_1 H41 =>
opP ((binC P .neq 34 true).f t38 (.int .i64 0)) fun t40 =>
wIf t40 (
K (.tuple [(.slice none 0 0), t38].toArray) H41) (
opW (loadAgg 36 t8 H41) fun t43 H44 =>
wCall P n_boot_set [(nth l 0), t43] H44 fun t44 H46 =>
opW ((buildSliceC P 31 1).f [(0, t44)] H46) fun t45 H48 =>
opP (offPtr 0 (nth l 1)) fun t46 =>
opP (offPtr 74 t46) fun t47 =>
opW (loadOne t47 H48) fun t48 H52 =>
opP (offPtr 2 t8) fun t49 =>
opW (loadOne t49 H52) fun t50 H55 =>
opP ((binC P .lss 22 false).f t48 t50) fun t51 =>
wIf t51 (
opP (offPtr 2 t8) fun t53 =>
opW (loadOne t53 H55) fun t54 H59 =>
opP ((buildC P 58).f [(0, (.int .i64 4)), (4, t54)]) fun t55 =>
opW ((buildSliceC P 31 1).f [(0, t55)] H59) fun t56 H62 =>
opW (appendWith 40 96 t45 t56 H62) fun t57 H64 =>
K (.tuple [t57, (.int .i64 0)].toArray) H64) (
K (.tuple [t45, (.int .i64 0)].toArray) H55))))
theorem boot_Good_eq (t0 t1 : Value) (H : Heap) (K : Value → Heap → Prop) : vcF P n_boot_Good [t0, t1] H K = boot_Good t0 t1 H K := by kernel_rfl
theorem boot_Good_ok {t0 t1 : Value} {H : Heap} {K : Value → Heap → Prop} (h : boot_Good t0 t1 H K) : wCall P n_boot_Good [t0, t1] H K := wCall_of_vcF rfl ((boot_Good_eq t0 t1 H K).mpr h)

/-! bootjack/bootjackref12.Good -/
def ref12_Good (t0 t1 : Value) (H : Heap) (K : Value → Heap → Prop) : Prop :=
wNew (cellsL t0) H fun t2 H1 =>
wJoin (fun J =>
opW (loadAgg 75 t2 H1) fun t9 H4 =>
wCall P n_ref11_Right [t9] H4 fun t10 H6 =>
opP (unA .not t10) fun t11 =>
wIf t11 (
opP (pickA t11 (.bool true) undef) fun t15 =>
opP (pickA t15 (.bool true) undef) fun t21 =>
J [t1, t2, t21] H6) (
opP ((binC P .lss 3 true).f t1 (.int .i64 0)) fun t14 =>
opP (pickA t11 (.bool true) t14) fun t15_1 =>
wIf t15_1 (
opP (pickA t15_1 (.bool true) undef) fun t21_1 =>
J [t1, t2, t21_1] H6) (
opP (offPtr 73 t2) fun t18 =>
opW (loadOne t18 H6) fun t19 H15 =>
opP ((binC P .neq 3 false).f t1 t19) fun t20 =>
opP (pickA t15_1 (.bool true) t20) fun t21_2 =>
J [t1, t2, t21_2] H15))) (fun l H19 =>
wIf (nth l 2) (
K (.tuple [(.slice none 0 0), (.int .i64 101)].toArray) H19) (
opP (offPtr 0 (nth l 1)) fun t24 =>
opP (idxPtr 2 36 t24 (nth l 0)) fun t25 =>
opW (loadAgg 36 t25 H19) fun t26 H23 =>
wCall P n_ref10_Good [t26] H23 fun t27 H25 =>
opP (extA 0 t27) fun t28 =>
opP (extA 1 t27) fun t29 =>
wNew (zc P 26) H25 fun t6 H29 =>
opW (storeTo 36 t6 t28 H29) fun u H31 =>
opP ((binC P .neq 3 true).f t29 (.int .i64 0)) fun t31 =>
wIf t31 (
K (.tuple [(.slice none 0 0), t29].toArray) H31) (
opW (loadAgg 36 t6 H31) fun t34 H34 =>
opP ((buildC P 58).f [(0, (.int .i64 1)), (1, (nth l 0)), (3, t34)]) fun t35 =>
opW ((buildSliceC P 31 1).f [(0, t35)] H34) fun t36 H37 =>
opP (offPtr 2 t6) fun t37 =>
opW (loadOne t37 H37) fun t38 H40 =>
opP (offPtr 74 (nth l 1)) fun t39 =>
opW (loadOne t39 H40) fun t40 H43 =>
opP ((binC P .gtr 22 false).f t38 t40) fun t41 =>
wIf t41 (
opP (offPtr 2 t6) fun t43 =>
opW (loadOne t43 H43) fun t44 H47 =>
opP ((buildC P 58).f [(0, (.int .i64 4)), (4, t44)]) fun t45 =>
opW ((buildSliceC P 31 1).f [(0, t45)] H47) fun t46 H50 =>
opW (appendWith 40 96 t36 t46 H50) fun t47 H52 =>
K (.tuple [t47, (.int .i64 0)].toArray) H52) (
K (.tuple [t36, (.int .i64 0)].toArray) H43))))
theorem ref12_Good_eq (t0 t1 : Value) (H : Heap) (K : Value → Heap → Prop) : vcF P n_ref12_Good [t0, t1] H K = ref12_Good t0 t1 H K := by kernel_rfl
theorem ref12_Good_ok {t0 t1 : Value} {H : Heap} {K : Value → Heap → Prop} (h : ref12_Good t0 t1 H K) : wCall P n_ref12_Good [t0, t1] H K := wCall_of_vcF rfl ((ref12_Good_eq t0 t1 H K).mpr h)

/-! bootjack/boot.Bad -/
def boot_Bad (t0 t1 : Value) (H : Heap) (K : Value → Heap → Prop) : Prop :=
wNew (cellsL t0) H fun t2 H1 =>
opW (loadAgg 75 t2 H1) fun t12 H3 =>
wCall P n_boot_look [t12] H3 fun t13 H5 =>
opP (extA 0 t13) fun t14 =>
opP (extA 1 t13) fun t15 =>
wNew (zc P 60) H5 fun t6 H9 =>
opW (storeTo 75 t6 t14 H9) fun u H11 =>
wJoin (fun J =>
opP (unA .not t15) fun t17 =>
wIf t17 (
opP (pickA t17 (.bool true) undef) fun t22 =>
J [t1, t6, t22] H11) (
wCall P n_boot_has [t1] H11 fun t20 H16 =>
opP (unA .not t20) fun t21 =>
opP (pickA t17 (.bool true) t21) fun t22_1 =>
J [t1, t6, t22_1] H16)) (fun l H20 =>
wIf (nth l 2) (
K (.tuple [(.slice none 0 0), (.int .i64 101)].toArray) H20) (
opP (offPtr 0 (nth l 1)) fun t25 =>
opP (offPtr 0 t25) fun t26 =>
opP (idxPtr 2 36 t26 (nth l 0)) fun t27 =>
opW (loadAgg 36 t27 H20) fun t28 H25 =>
wCall P n_slot_Bad [t28] H25 fun t29 H27 =>
opP (extA 0 t29) fun t30 =>
opP (extA 1 t29) fun t31 =>
wNew (zc P 26) H27 fun t8 H31 =>
opW (storeTo 36 t8 t30 H31) fun u_1 H33 =>
opP ((binC P .neq 34 true).f t31 (.int .i64 0)) fun t34 =>
wIf t34 (
K (.tuple [(.slice none 0 0), t31].toArray) H33) (
opW (loadAgg 75 (nth l 1) H33) fun t37 H36 =>
opP ((binC P .sub 3 true).f (.int .i64 1) (nth l 0)) fun t39 =>
wCall P n_boot_view_is [t37, t39, (.int .i64 3)] H36 fun t40 H39 =>
opP (unA .not t40) fun t41 =>
wIf t41 (
K (.tuple [(.slice none 0 0), (.int .i64 122)].toArray) H39) (
opW (loadAgg 36 t8 H39) fun t43 H42 =>
wCall P n_boot_set [(nth l 0), t43] H42 fun t44 H44 =>
opW ((buildSliceC P 31 1).f [(0, t44)] H44) fun t45 H46 =>
opP (offPtr 0 (nth l 1)) fun t47 =>
opP (offPtr 72 t47) fun t48 =>
opW (loadOne t48 H46) fun t49 H50 =>
opP ((binC P .eql 3 false).f (nth l 0) t49) fun t50 =>
wIf t50 (
opP ((binC P .sub 3 true).f (.int .i64 1) (nth l 0)) fun t53 =>
wCall P n_boot_active [t53] H50 fun t54 H54 =>
opW ((buildSliceC P 31 1).f [(0, t54)] H54) fun t55 H56 =>
opW (appendWith 40 96 t45 t55 H56) fun t56 H58 =>
K (.tuple [t56, (.int .i64 0)].toArray) H58) (
K (.tuple [t45, (.int .i64 0)].toArray) H50)))))
theorem boot_Bad_eq (t0 t1 : Value) (H : Heap) (K : Value → Heap → Prop) : vcF P n_boot_Bad [t0, t1] H K = boot_Bad t0 t1 H K := by kernel_rfl
theorem boot_Bad_ok {t0 t1 : Value} {H : Heap} {K : Value → Heap → Prop} (h : boot_Bad t0 t1 H K) : wCall P n_boot_Bad [t0, t1] H K := wCall_of_vcF rfl ((boot_Bad_eq t0 t1 H K).mpr h)

/-! bootjack/bootjackref12.Bad -/
def ref12_Bad (t0 t1 : Value) (H : Heap) (K : Value → Heap → Prop) : Prop :=
wNew (cellsL t0) H fun t2 H1 =>
wJoin (fun J =>
opW (loadAgg 75 t2 H1) fun t9 H4 =>
wCall P n_ref11_Right [t9] H4 fun t10 H6 =>
opP (unA .not t10) fun t11 =>
wIf t11 (
opP (pickA t11 (.bool true) undef) fun t15 =>
opP (pickA t15 (.bool true) undef) fun t19 =>
J [t1, t2, t19] H6) (
opP ((binC P .lss 3 true).f t1 (.int .i64 0)) fun t14 =>
opP (pickA t11 (.bool true) t14) fun t15_1 =>
wIf t15_1 (
opP (pickA t15_1 (.bool true) undef) fun t19_1 =>
J [t1, t2, t19_1] H6) (
opP ((binC P .gtr 3 true).f t1 (.int .i64 1)) fun t18 =>
opP (pickA t15_1 (.bool true) t18) fun t19_2 =>
J [t1, t2, t19_2] H6))) (fun l H16 =>
wIf (nth l 2) (
K (.tuple [(.slice none 0 0), (.int .i64 101)].toArray) H16) (
opP (offPtr 0 (nth l 1)) fun t22 =>
opP (idxPtr 2 36 t22 (nth l 0)) fun t23 =>
opW (loadAgg 36 t23 H16) fun t24 H20 =>
wCall P n_ref10_Bad [t24] H20 fun t25 H22 =>
opP (extA 0 t25) fun t26 =>
opP (extA 1 t25) fun t27 =>
wNew (zc P 26) H22 fun t6 H26 =>
opW (storeTo 36 t6 t26 H26) fun u H28 =>
opP ((binC P .neq 3 true).f t27 (.int .i64 0)) fun t29 =>
wIf t29 (
K (.tuple [(.slice none 0 0), t27].toArray) H28) (
opP ((binC P .sub 3 true).f (.int .i64 1) (nth l 0)) fun t32 =>
opP (offPtr 0 (nth l 1)) fun t33 =>
opP (idxPtr 2 36 t33 t32) fun t34 =>
opP (offPtr 0 t34) fun t35 =>
opW (loadOne t35 H28) fun t36 H35 =>
opP ((binC P .neq 3 true).f t36 (.int .i64 3)) fun t37 =>
wIf t37 (
K (.tuple [(.slice none 0 0), (.int .i64 122)].toArray) H35) (
opW (loadAgg 36 t6 H35) fun t39 H38 =>
opP ((buildC P 58).f [(0, (.int .i64 1)), (1, (nth l 0)), (3, t39)]) fun t40 =>
opW ((buildSliceC P 31 1).f [(0, t40)] H38) fun t41 H41 =>
opP (offPtr 72 (nth l 1)) fun t42 =>
opW (loadOne t42 H41) fun t43 H44 =>
opP ((binC P .eql 3 false).f t43 (nth l 0)) fun t45 =>
wIf t45 (
opP ((binC P .sub 3 true).f (.int .i64 1) (nth l 0)) fun t48 =>
opP ((buildC P 58).f [(0, (.int .i64 2)), (2, t48)]) fun t49 =>
opW ((buildSliceC P 31 1).f [(0, t49)] H44) fun t50 H49 =>
opW (appendWith 40 96 t41 t50 H49) fun t51 H51 =>
K (.tuple [t51, (.int .i64 0)].toArray) H51) (
K (.tuple [t41, (.int .i64 0)].toArray) H44)))))
theorem ref12_Bad_eq (t0 t1 : Value) (H : Heap) (K : Value → Heap → Prop) : vcF P n_ref12_Bad [t0, t1] H K = ref12_Bad t0 t1 H K := by kernel_rfl
theorem ref12_Bad_ok {t0 t1 : Value} {H : Heap} {K : Value → Heap → Prop} (h : ref12_Bad t0 t1 H K) : wCall P n_ref12_Bad [t0, t1] H K := wCall_of_vcF rfl ((ref12_Bad_eq t0 t1 H K).mpr h)

/-! bootjack/bootjackref10.Right -/
def ref10_Right (t0 : Value) (H : Heap) (K : Value → Heap → Prop) : Prop :=
wNew (cellsL t0) H fun t1 H1 =>
wJoin (fun J =>
opP (offPtr 1 t1) fun t5 =>
opW (loadOne t5 H1) fun t6 H5 =>
opP ((binC P .eql 3 true).f t6 (.int .i64 0)) fun t7 =>
wIf t7 (
opP (offPtr 2 t1) fun t9 =>
opW (loadOne t9 H5) fun t10 H9 =>
opP ((binC P .eql 22 true).f t10 (.int .u64 0)) fun t11 =>
opP (pickA t7 t11 (.bool false)) fun t12 =>
wIf t12 (
opP (offPtr 3 t1) fun t14 =>
opW (loadOne t14 H9) fun t15 H14 =>
opP ((binC P .eql 3 true).f t15 (.int .i64 0)) fun t16 =>
opP (pickA t12 t16 (.bool false)) fun t17 =>
wIf t17 (
opP (offPtr 4 t1) fun t19 =>
opW (loadAgg 32 t19 H14) fun t20 H19 =>
opP ((buildC P 24).f []) fun t21 =>
opP ((binC P .eql 24 false).f t20 t21) fun t22 =>
opP (pickA t17 t22 (.bool false)) fun t23 =>
J [t1, t23] H19) (
opP (pickA t17 undef (.bool false)) fun t23_1 =>
J [t1, t23_1] H14)) (
opP (pickA t12 undef (.bool false)) fun t17_1 =>
opP (pickA t17_1 undef (.bool false)) fun t23_2 =>
J [t1, t23_2] H9)) (
opP (pickA t7 undef (.bool false)) fun t12_1 =>
opP (pickA t12_1 undef (.bool false)) fun t17_2 =>
opP (pickA t17_2 undef (.bool false)) fun t23_3 =>
J [t1, t23_3] H5)) (fun l H30 =>
wJoin (fun J_1 =>
opP (offPtr 2 (nth l 0)) fun t24 =>
opW (loadOne t24 H30) fun t25 H34 =>
opP ((binC P .geq 22 true).f t25 (.int .u64 1)) fun t26 =>
wIf t26 (
opP (offPtr 2 (nth l 0)) fun t28 =>
opW (loadOne t28 H34) fun t29 H38 =>
opP ((binC P .leq 22 true).f t29 (.int .u64 281474976710656)) fun t30 =>
opP (pickA t26 t30 (.bool false)) fun t31 =>
wIf t31 (
opP (offPtr 3 (nth l 0)) fun t33 =>
opW (loadOne t33 H38) fun t34 H43 =>
opP ((binC P .geq 3 true).f t34 (.int .i64 1)) fun t35 =>
opP (pickA t31 t35 (.bool false)) fun t36 =>
wIf t36 (
opP (offPtr 3 (nth l 0)) fun t38 =>
opW (loadOne t38 H43) fun t39 H48 =>
opP ((binC P .leq 3 true).f t39 (.int .i64 65536)) fun t40 =>
opP (pickA t36 t40 (.bool false)) fun t41 =>
J_1 [(nth l 0), (nth l 1), t41] H48) (
opP (pickA t36 undef (.bool false)) fun t41_1 =>
J_1 [(nth l 0), (nth l 1), t41_1] H43)) (
opP (pickA t31 undef (.bool false)) fun t36_1 =>
opP (pickA t36_1 undef (.bool false)) fun t41_2 =>
J_1 [(nth l 0), (nth l 1), t41_2] H38)) (
opP (pickA t26 undef (.bool false)) fun t31_1 =>
opP (pickA t31_1 undef (.bool false)) fun t36_2 =>
opP (pickA t36_2 undef (.bool false)) fun t41_3 =>
J_1 [(nth l 0), (nth l 1), t41_3] H34)) (fun l_1 H58 =>
wJoin (fun J_2 =>
opP (offPtr 0 (nth l_1 0)) fun t42 =>
opW (loadOne t42 H58) fun t43 H62 =>
opP ((binC P .eql 3 true).f t43 (.int .i64 0)) fun t44 =>
wIf t44 (
opP (pickA t44 (.bool true) undef) fun t49 =>
opP (pickA t49 (.bool true) undef) fun t54 =>
J_2 [(nth l_1 0), (nth l_1 1), (nth l_1 2), t54] H62) (
opP (offPtr 0 (nth l_1 0)) fun t46 =>
opW (loadOne t46 H62) fun t47 H68 =>
opP ((binC P .eql 3 true).f t47 (.int .i64 1)) fun t48 =>
opP (pickA t44 (.bool true) t48) fun t49_1 =>
wIf t49_1 (
opP (pickA t49_1 (.bool true) undef) fun t54_1 =>
J_2 [(nth l_1 0), (nth l_1 1), (nth l_1 2), t54_1] H68) (
opP (offPtr 0 (nth l_1 0)) fun t51 =>
opW (loadOne t51 H68) fun t52 H74 =>
opP ((binC P .eql 3 true).f t52 (.int .i64 4)) fun t53 =>
opP (pickA t49_1 (.bool true) t53) fun t54_2 =>
J_2 [(nth l_1 0), (nth l_1 1), (nth l_1 2), t54_2] H74))) (fun l_2 H78 =>
wIf (nth l_2 3) (
K (nth l_2 1) H78) (
opP (offPtr 0 (nth l_2 0)) fun t56 =>
opW (loadOne t56 H78) fun t57 H81 =>
opP ((binC P .eql 3 true).f t57 (.int .i64 2)) fun t58 =>
wIf t58 (
wIf (nth l_2 2) (
opP (offPtr 1 (nth l_2 0)) fun t61 =>
opW (loadOne t61 H81) fun t62 H85 =>
opP ((binC P .geq 3 true).f t62 (.int .i64 0)) fun t63 =>
opP (pickA (nth l_2 2) t63 (.bool false)) fun t64 =>
wIf t64 (
opP (offPtr 1 (nth l_2 0)) fun t66 =>
opW (loadOne t66 H85) fun t67 H90 =>
opP ((binC P .leq 3 true).f t67 (.int .i64 7)) fun t68 =>
opP (pickA t64 t68 (.bool false)) fun t69 =>
K t69 H90) (
opP (pickA t64 undef (.bool false)) fun t69_1 =>
K t69_1 H85)) (
opP (pickA (nth l_2 2) undef (.bool false)) fun t64_1 =>
opP (pickA t64_1 undef (.bool false)) fun t69_2 =>
K t69_2 H81)) (
opP (offPtr 0 (nth l_2 0)) fun t70 =>
opW (loadOne t70 H81) fun t71 H98 =>
opP ((binC P .eql 3 true).f t71 (.int .i64 3)) fun t72 =>
wIf t72 (
opP (pickA t72 (nth l_2 2) (.bool false)) fun t75 =>
wIf t75 (
opP (offPtr 1 (nth l_2 0)) fun t77 =>
opW (loadOne t77 H98) fun t78 H103 =>
opP ((binC P .eql 3 true).f t78 (.int .i64 0)) fun t79 =>
opP (pickA t75 t79 (.bool false)) fun t80 =>
K t80 H103) (
opP (pickA t75 undef (.bool false)) fun t80_1 =>
K t80_1 H98)) (
opP (pickA t72 undef (.bool false)) fun t75_1 =>
opP (pickA t75_1 undef (.bool false)) fun t80_2 =>
K t80_2 H98))))))
theorem ref10_Right_eq (t0 : Value) (H : Heap) (K : Value → Heap → Prop) : vcF P n_ref10_Right [t0] H K = ref10_Right t0 H K := by kernel_rfl
theorem ref10_Right_ok {t0 : Value} {H : Heap} {K : Value → Heap → Prop} (h : ref10_Right t0 H K) : wCall P n_ref10_Right [t0] H K := wCall_of_vcF rfl ((ref10_Right_eq t0 H K).mpr h)

/-! bootjack/table.Apply -/
noncomputable abbrev table_Apply_P0 : Code := loopAt P n_table_Apply 0
/-- loop 0: goes on from the slots [2, 4, 5, 17, 18, 19]; leaves [2, 4, 5] -/
def table_Apply_L0 (l : List Value) (H : Heap) (N : List Value → Heap → Prop) (Qx : Nat → List Value → Heap → Prop) (Qr : List Value → Heap → Prop) : Prop :=
opP ((binC P .lss 3 false).f (nth l 5) (nth l 4)) fun t20 =>
wIf t20 (
opP (idxSl 40 (nth l 3) (nth l 5)) fun t21 =>
opW (loadAgg 40 t21 H) fun t22 H3 =>
wNew (zc P 58) H3 fun t7 H5 =>
opW (storeTo 40 t7 t22 H5) fun u H7 =>
opP (offPtr 0 t7) fun t23 =>
opW (loadOne t23 H7) fun t24 H10 =>
opP ((binC P .eql 3 true).f t24 (.int .i64 1)) fun t26 =>
wIf t26 (
opP (offPtr 1 t7) fun t27 =>
opW (loadOne t27 H10) fun t28 H14 =>
opP (offPtr 3 t7) fun t29 =>
opW (loadAgg 36 t29 H14) fun t30 H17 =>
opP (offPtr 0 (nth l 0)) fun t31 =>
opP (idxPtr 2 36 t31 t28) fun t32 =>
opW (storeTo 36 t32 t30 H17) fun u_1 H21 =>
opP ((binC P .add 3 true).f (nth l 5) (.int .i64 1)) fun t54 =>
N [(nth l 0), (nth l 1), (nth l 2), (nth l 3), (nth l 4), t54] H21) (
opP ((binC P .eql 3 true).f t24 (.int .i64 2)) fun t34 =>
wIf t34 (
opP (offPtr 2 t7) fun t35 =>
opW (loadOne t35 H10) fun t36 H26 =>
opP (offPtr 72 (nth l 0)) fun t37 =>
opW (storeTo 1 t37 t36 H26) fun u_2 H29 =>
opP ((binC P .add 3 true).f (nth l 5) (.int .i64 1)) fun t54_1 =>
N [(nth l 0), (nth l 1), (nth l 2), (nth l 3), (nth l 4), t54_1] H29) (
opP ((binC P .eql 3 true).f t24 (.int .i64 3)) fun t39 =>
wIf t39 (
opP (offPtr 2 t7) fun t40 =>
opW (loadOne t40 H10) fun t41 H34 =>
opP (offPtr 73 (nth l 0)) fun t42 =>
opW (storeTo 1 t42 t41 H34) fun u_3 H37 =>
opP ((binC P .add 3 true).f (nth l 5) (.int .i64 1)) fun t54_2 =>
N [(nth l 0), (nth l 1), (nth l 2), (nth l 3), (nth l 4), t54_2] H37) (
opP ((binC P .eql 3 true).f t24 (.int .i64 4)) fun t44 =>
wIf t44 (
opP (offPtr 39 t7) fun t45 =>
opW (loadOne t45 H10) fun t46 H42 =>
opP (offPtr 74 (nth l 0)) fun t47 =>
opW (loadOne t47 H42) fun t48 H45 =>
opP ((binC P .lss 22 false).f t46 t48) fun t49 =>
wIf t49 (
opP ((buildC P 29).f []) fun t50 =>
opW (storeTo 75 (nth l 1) t50 H45) fun u_4 H49 =>
Qr [(nth l 0), (nth l 1), (.int .i64 111)] H49) (
opP (offPtr 39 t7) fun t51 =>
opW (loadOne t51 H45) fun t52 H52 =>
opP (offPtr 74 (nth l 0)) fun t53 =>
opW (storeTo 1 t53 t52 H52) fun u_5 H55 =>
opP ((binC P .add 3 true).f (nth l 5) (.int .i64 1)) fun t54_3 =>
N [(nth l 0), (nth l 1), (nth l 2), (nth l 3), (nth l 4), t54_3] H55)) (
opP ((binC P .add 3 true).f (nth l 5) (.int .i64 1)) fun t54_4 =>
N [(nth l 0), (nth l 1), (nth l 2), (nth l 3), (nth l 4), t54_4] H10))))) (
Qx 0 [(nth l 0), (nth l 1), (nth l 2)] H)
theorem table_Apply_L0_eq (l : List Value) (H : Heap) (N : List Value → Heap → Prop) (Qx : Nat → List Value → Heap → Prop) (Qr : List Value → Heap → Prop) : vcC P true 56 table_Apply_P0 (live table_Apply_P0 0 52) 52 (envOf (bits 56 (live table_Apply_P0 0 52)) l) H (loopQ 56 table_Apply_P0 52 N Qx Qr) = table_Apply_L0 l H N Qx Qr := by kernel_rfl
theorem table_Apply_L0_ind (I : Nat → List Value → Heap → Prop) (Qx : Nat → List Value → Heap → Prop) (Qr : List Value → Heap → Prop) (hs : ∀ k l H, I k l H → table_Apply_L0 l H (fun l H => ∃ k', k' < k ∧ I k' l H) Qx Qr) (k : Nat) (l : List Value) (H : Heap) (h : I k l H) : wLoop P true 56 table_Apply_P0 52 l H Qx Qr :=
  loop_ind (by kernel_rfl) I (fun k l H h => (table_Apply_L0_eq l H _ Qx Qr).mpr (hs k l H h)) k l H h
def table_Apply (t0 t1 : Value) (H : Heap) (K : Value → Heap → Prop) : Prop :=
wNew (cellsL t0) H fun t2 H1 =>
wNew (zc P 29) H1 fun t4 H3 =>
wJoin (fun J =>
opW (loadAgg 75 t2 H3) fun t8 H6 =>
wCall P n_table_Right [t8] H6 fun t9 H8 =>
opP (unA .not t9) fun t10 =>
wIf t10 (
opP (pickA t10 (.bool true) undef) fun t15 =>
J [t1, t2, t4, (.int .i64 0), t15] H8) (
wCall P n_table_transaction [t1] H8 fun t13 H12 =>
opP (unA .not t13) fun t14 =>
opP (pickA t10 (.bool true) t14) fun t15_1 =>
J [t1, t2, t4, (.int .i64 0), t15_1] H12)) (fun l H16 =>
wIf (nth l 4) (
opP ((buildC P 29).f []) fun t16 =>
opW (storeTo 75 (nth l 2) t16 H16) fun u H19 =>
opW (loadAgg 75 (nth l 2) H19) fun r _ =>
K (.tuple [r, (.int .i64 111)].toArray) H19) (
opW (lenSl (nth l 0) H16) fun t18 H22 =>
wLoop P true 56 table_Apply_P0 52 [(nth l 1), (nth l 2), (nth l 3), (nth l 0), t18, (.int .i64 0)] H22 (fun id l_1 H24 =>
cond (Nat.beq id 0) (
opW (loadAgg 75 (nth l_1 0) H24) fun t55 H26 =>
opW (storeTo 75 (nth l_1 1) t55 H26) fun u_1 H28 =>
opW (loadAgg 75 (nth l_1 1) H28) fun r_1 _ =>
K (.tuple [r_1, (.int .i64 0)].toArray) H28) (
False)) (fun l_1 H24 =>
opW (loadAgg 75 (nth l_1 1) H24) fun r_2 _ =>
K (.tuple [r_2, (nth l_1 2)].toArray) H24)))
theorem table_Apply_eq (t0 t1 : Value) (H : Heap) (K : Value → Heap → Prop) : vcF P n_table_Apply [t0, t1] H K = table_Apply t0 t1 H K := by kernel_rfl
theorem table_Apply_ok {t0 t1 : Value} {H : Heap} {K : Value → Heap → Prop} (h : table_Apply t0 t1 H K) : wCall P n_table_Apply [t0, t1] H K := wCall_of_vcF rfl ((table_Apply_eq t0 t1 H K).mpr h)

/-! bootjack/bootjackref11.Right -/
def ref11_Right (t0 : Value) (H : Heap) (K : Value → Heap → Prop) : Prop :=
wNew (cellsL t0) H fun t1 H1 =>
wJoin (fun J =>
opP (offPtr 0 t1) fun t3 =>
opP (idxPtr 2 36 t3 (.int .i64 0)) fun t4 =>
opW (loadAgg 36 t4 H1) fun t5 H6 =>
wCall P n_ref10_Right [t5] H6 fun t6 H8 =>
opP (unA .not t6) fun t7 =>
wIf t7 (
opP (pickA t7 (.bool true) undef) fun t14 =>
wIf t14 (
K (.bool false) H8) (
J [t1] H8)) (
opP (offPtr 0 t1) fun t9 =>
opP (idxPtr 2 36 t9 (.int .i64 1)) fun t10 =>
opW (loadAgg 36 t10 H8) fun t11 H14 =>
wCall P n_ref10_Right [t11] H14 fun t12 H16 =>
opP (unA .not t12) fun t13 =>
opP (pickA t7 (.bool true) t13) fun t14_1 =>
wIf t14_1 (
K (.bool false) H16) (
J [t1] H16))) (fun l H20 =>
opP (offPtr 72 (nth l 0)) fun t15 =>
opW (loadOne t15 H20) fun t16 H23 =>
opP ((binC P .geq 3 true).f t16 (.int .i64 0)) fun t17 =>
wIf t17 (
opP (offPtr 72 (nth l 0)) fun t19 =>
opW (loadOne t19 H23) fun t20 H27 =>
opP ((binC P .leq 3 true).f t20 (.int .i64 1)) fun t21 =>
opP (pickA t17 t21 (.bool false)) fun t22 =>
wIf t22 (
opP (offPtr 73 (nth l 0)) fun t24 =>
opW (loadOne t24 H27) fun t25 H32 =>
opP ((binC P .geq 3 true).f t25 (.int .i64 (-1))) fun t26 =>
opP (pickA t22 t26 (.bool false)) fun t27 =>
wIf t27 (
opP (offPtr 73 (nth l 0)) fun t29 =>
opW (loadOne t29 H32) fun t30 H37 =>
opP ((binC P .leq 3 true).f t30 (.int .i64 1)) fun t31 =>
opP (pickA t27 t31 (.bool false)) fun t32 =>
wIf t32 (
opP (offPtr 74 (nth l 0)) fun t34 =>
opW (loadOne t34 H37) fun t35 H42 =>
opP ((binC P .leq 22 true).f t35 (.int .u64 281474976710656)) fun t36 =>
opP (pickA t32 t36 (.bool false)) fun t37 =>
K t37 H42) (
opP (pickA t32 undef (.bool false)) fun t37_1 =>
K t37_1 H37)) (
opP (pickA t27 undef (.bool false)) fun t32_1 =>
opP (pickA t32_1 undef (.bool false)) fun t37_2 =>
K t37_2 H32)) (
opP (pickA t22 undef (.bool false)) fun t27_1 =>
opP (pickA t27_1 undef (.bool false)) fun t32_2 =>
opP (pickA t32_2 undef (.bool false)) fun t37_3 =>
K t37_3 H27)) (
opP (pickA t17 undef (.bool false)) fun t22_1 =>
opP (pickA t22_1 undef (.bool false)) fun t27_2 =>
opP (pickA t27_2 undef (.bool false)) fun t32_3 =>
opP (pickA t32_3 undef (.bool false)) fun t37_4 =>
K t37_4 H23))
theorem ref11_Right_eq (t0 : Value) (H : Heap) (K : Value → Heap → Prop) : vcF P n_ref11_Right [t0] H K = ref11_Right t0 H K := by kernel_rfl
theorem ref11_Right_ok {t0 : Value} {H : Heap} {K : Value → Heap → Prop} (h : ref11_Right t0 H K) : wCall P n_ref11_Right [t0] H K := wCall_of_vcF rfl ((ref11_Right_eq t0 H K).mpr h)

/-! bootjack/bootjacklaw12.changes -/
def law12_changes (t0 t1 : Value) (H : Heap) (K : Value → Heap → Prop) : Prop :=
wNew (cellsL t0) H fun t2 H1 =>
wNew (cellsL t1) H1 fun t3 H3 =>
opW ((buildSliceC P 31 0).f [] H3) fun t6 H5 =>
opP (offPtr 0 t3) fun t7 =>
opW (loadOne t7 H5) fun t8 H8 =>
opP ((binC P .eql 3 true).f t8 (.int .i64 0)) fun t17 =>
wIf t17 (
opW (loadAgg 75 t2 H8) fun t19 H11 =>
wCall P n_boot_Plan [t19] H11 fun t20 H13 =>
opP (extA 0 t20) fun t21 =>
opP (extA 1 t20) fun t22 =>
K t22 H13) (
opP ((binC P .eql 3 true).f t8 (.int .i64 1)) fun t24 =>
wIf t24 (
opW (loadAgg 75 t2 H8) fun t26 H18 =>
wCall P n_boot_Wipe [t26] H18 fun t27 H20 =>
opP (extA 0 t27) fun t28 =>
opP (extA 1 t27) fun t29 =>
K t28 H20) (
opP ((binC P .eql 3 true).f t8 (.int .i64 2)) fun t31 =>
wIf t31 (
opW (loadAgg 75 t2 H8) fun t33 H25 =>
opP (offPtr 1 t3) fun t34 =>
opW (loadOne t34 H25) fun t35 H28 =>
opP (offPtr 2 t3) fun t36 =>
opW (loadAgg 36 t36 H28) fun t37 H31 =>
wCall P n_boot_Land [t33, t35, t37] H31 fun t38 H33 =>
opP (extA 0 t38) fun t39 =>
opP (extA 1 t38) fun t40 =>
K t39 H33) (
opP ((binC P .eql 3 true).f t8 (.int .i64 3)) fun t42 =>
wIf t42 (
opW (loadAgg 75 t2 H8) fun t44 H38 =>
opP (offPtr 1 t3) fun t45 =>
opW (loadOne t45 H38) fun t46 H41 =>
wCall P n_boot_Good [t44, t46] H41 fun t47 H43 =>
opP (extA 0 t47) fun t48 =>
opP (extA 1 t47) fun t49 =>
K t48 H43) (
opW (loadAgg 75 t2 H8) fun t10 H47 =>
opP (offPtr 1 t3) fun t11 =>
opW (loadOne t11 H47) fun t12 H50 =>
wCall P n_boot_Bad [t10, t12] H50 fun t13 H52 =>
opP (extA 0 t13) fun t14 =>
opP (extA 1 t13) fun t15 =>
K t14 H52))))
theorem law12_changes_eq (t0 t1 : Value) (H : Heap) (K : Value → Heap → Prop) : vcF P n_law12_changes [t0, t1] H K = law12_changes t0 t1 H K := by kernel_rfl
theorem law12_changes_ok {t0 t1 : Value} {H : Heap} {K : Value → Heap → Prop} (h : law12_changes t0 t1 H K) : wCall P n_law12_changes [t0, t1] H K := wCall_of_vcF rfl ((law12_changes_eq t0 t1 H K).mpr h)

/-! bootjack/bootjackref10.Bootable -/
def ref10_Bootable (t0 : Value) (H : Heap) (K : Value → Heap → Prop) : Prop :=
wNew (cellsL t0) H fun t1 H1 =>
opW (loadAgg 36 t1 H1) fun t3 H3 =>
wCall P n_ref10_Right [t3] H3 fun t4 H5 =>
wIf t4 (
opP (offPtr 0 t1) fun t6 =>
opW (loadOne t6 H5) fun t7 H8 =>
opP ((binC P .eql 3 true).f t7 (.int .i64 3)) fun t8 =>
wIf t8 (
opP (pickA t8 (.bool true) undef) fun t18 =>
opP (pickA t4 t18 (.bool false)) fun t19 =>
K t19 H8) (
opP (offPtr 0 t1) fun t10 =>
opW (loadOne t10 H8) fun t11 H14 =>
opP ((binC P .eql 3 true).f t11 (.int .i64 2)) fun t12 =>
wIf t12 (
opP (offPtr 1 t1) fun t14 =>
opW (loadOne t14 H14) fun t15 H18 =>
opP ((binC P .geq 3 true).f t15 (.int .i64 1)) fun t16 =>
opP (pickA t12 t16 (.bool false)) fun t17 =>
opP (pickA t8 (.bool true) t17) fun t18_1 =>
opP (pickA t4 t18_1 (.bool false)) fun t19_1 =>
K t19_1 H18) (
opP (pickA t12 undef (.bool false)) fun t17_1 =>
opP (pickA t8 (.bool true) t17_1) fun t18_2 =>
opP (pickA t4 t18_2 (.bool false)) fun t19_2 =>
K t19_2 H14))) (
opP (pickA t4 undef (.bool false)) fun t19_3 =>
K t19_3 H5)
theorem ref10_Bootable_eq (t0 : Value) (H : Heap) (K : Value → Heap → Prop) : vcF P n_ref10_Bootable [t0] H K = ref10_Bootable t0 H K := by kernel_rfl
theorem ref10_Bootable_ok {t0 : Value} {H : Heap} {K : Value → Heap → Prop} (h : ref10_Bootable t0 H K) : wCall P n_ref10_Bootable [t0] H K := wCall_of_vcF rfl ((ref10_Bootable_eq t0 H K).mpr h)

/-! bootjack/boot.look -/
def boot_look (t0 : Value) (H : Heap) (K : Value → Heap → Prop) : Prop :=
wNew (cellsL t0) H fun t1 H1 =>
wNew (zc P 60) H1 fun t2 H3 =>
opW (loadAgg 75 t1 H3) fun t4 H5 =>
opP ((buildC P 60).f [(0, t4)]) fun t5 =>
opW (loadAgg 75 t1 H5) fun t6 H8 =>
wCall P n_table_Right [t6] H8 fun t7 H10 =>
cSame (sameB H8 H10) (idsOf [t1]) ∧ (opW (storeTo 75 t2 t5 H10) fun u H12 =>
opW (loadAgg 75 t2 H12) fun r _ =>
K (.tuple [r, t7].toArray) H12)
theorem boot_look_eq (t0 : Value) (H : Heap) (K : Value → Heap → Prop) : vcF P n_boot_look [t0] H K = boot_look t0 H K := by kernel_rfl
theorem boot_look_ok {t0 : Value} {H : Heap} {K : Value → Heap → Prop} (h : boot_look t0 H K) : wCall P n_boot_look [t0] H K := wCall_of_vcF rfl ((boot_look_eq t0 H K).mpr h)

/-! (bootjack/boot.view).pick -/
noncomputable abbrev boot_view_pick_P0 : Code := loopAt P n_boot_view_pick 0
/-- loop 0: goes on from the slots [1, 2, 10, 11]; leaves [2] -/
def boot_view_pick_L0 (l : List Value) (H : Heap) (N : List Value → Heap → Prop) (Qx : Nat → List Value → Heap → Prop) (Qr : List Value → Heap → Prop) : Prop :=
opP ((binC P .lss 3 true).f (nth l 3) (.int .i64 2)) fun t12 =>
wIf t12 (
opP (idxAgg 2 1 (partC P 3).f (nth l 2) (nth l 3)) fun t13 =>
opP (offPtr 0 (nth l 0)) fun t15 =>
opP (offPtr 0 t15) fun t16 =>
opP (idxPtr 2 36 t16 t13) fun t17 =>
opW (loadAgg 36 t17 H) fun t18 H6 =>
wCall P n_slot_Bootable [t18] H6 fun t19 H8 =>
wIf t19 (
Qr [t13] H8) (
opP ((binC P .add 3 true).f (nth l 3) (.int .i64 1)) fun t21 =>
N [(nth l 0), (nth l 1), (nth l 2), t21] H8)) (
Qx 0 [(nth l 1)] H)
theorem boot_view_pick_L0_eq (l : List Value) (H : Heap) (N : List Value → Heap → Prop) (Qx : Nat → List Value → Heap → Prop) (Qr : List Value → Heap → Prop) : vcC P true 22 boot_view_pick_P0 (live boot_view_pick_P0 0 4) 4 (envOf (bits 22 (live boot_view_pick_P0 0 4)) l) H (loopQ 22 boot_view_pick_P0 4 N Qx Qr) = boot_view_pick_L0 l H N Qx Qr := by kernel_rfl
theorem boot_view_pick_L0_ind (I : Nat → List Value → Heap → Prop) (Qx : Nat → List Value → Heap → Prop) (Qr : List Value → Heap → Prop) (hs : ∀ k l H, I k l H → boot_view_pick_L0 l H (fun l H => ∃ k', k' < k ∧ I k' l H) Qx Qr) (k : Nat) (l : List Value) (H : Heap) (h : I k l H) : wLoop P true 22 boot_view_pick_P0 4 l H Qx Qr :=
  loop_ind (by kernel_rfl) I (fun k l H h => (boot_view_pick_L0_eq l H _ Qx Qr).mpr (hs k l H h)) k l H h
def boot_view_pick (t0 : Value) (H : Heap) (K : Value → Heap → Prop) : Prop :=
wNew (cellsL t0) H fun t1 H1 =>
opP (offPtr 0 t1) fun t5 =>
opP (offPtr 72 t5) fun t6 =>
opW (loadOne t6 H1) fun t7 H5 =>
opW (loadAgg 75 t1 H5) fun t8 H7 =>
wCall P n_boot_view_other [t8] H7 fun t9 H9 =>
cSame (sameB H7 H9) (idsOf [t6]) ∧ (opP ((buildC P 73).f [(0, t7), (1, t9)]) fun t10 =>
wLoop P true 22 boot_view_pick_P0 4 [t1, (.int .i64 0), t10, (.int .i64 0)] H9 (fun id l H12 =>
cond (Nat.beq id 0) (
K (.int .i64 (-1)) H12) (
False)) (fun l H12 =>
K (nth l 0) H12))
theorem boot_view_pick_eq (t0 : Value) (H : Heap) (K : Value → Heap → Prop) : vcF P n_boot_view_pick [t0] H K = boot_view_pick t0 H K := by kernel_rfl
theorem boot_view_pick_ok {t0 : Value} {H : Heap} {K : Value → Heap → Prop} (h : boot_view_pick t0 H K) : wCall P n_boot_view_pick [t0] H K := wCall_of_vcF rfl ((boot_view_pick_eq t0 H K).mpr h)

/-! (bootjack/boot.view).is -/
def boot_view_is (t0 t1 t2 : Value) (H : Heap) (K : Value → Heap → Prop) : Prop :=
wNew (cellsL t0) H fun t3 H1 =>
opP (offPtr 0 t3) fun t8 =>
opP (offPtr 0 t8) fun t9 =>
opP (idxPtr 2 36 t9 t1) fun t10 =>
opP (offPtr 0 t10) fun t11 =>
opW (loadOne t11 H1) fun t12 H7 =>
opP ((binC P .eql 3 false).f t12 t2) fun t14 =>
K t14 H7
theorem boot_view_is_eq (t0 t1 t2 : Value) (H : Heap) (K : Value → Heap → Prop) : vcF P n_boot_view_is [t0, t1, t2] H K = boot_view_is t0 t1 t2 H K := by kernel_rfl
theorem boot_view_is_ok {t0 t1 t2 : Value} {H : Heap} {K : Value → Heap → Prop} (h : boot_view_is t0 t1 t2 H K) : wCall P n_boot_view_is [t0, t1, t2] H K := wCall_of_vcF rfl ((boot_view_is_eq t0 t1 t2 H K).mpr h)

/-! bootjack/slot.Bad -/
def slot_Bad (t0 : Value) (H : Heap) (K : Value → Heap → Prop) : Prop :=
wNew (cellsL t0) H fun t1 H1 =>
wNew (zc P 26) H1 fun t2 H3 =>
wJoin (fun J =>
opW (loadAgg 36 t1 H3) fun t4 H6 =>
wCall P n_slot_Right [t4] H6 fun t5 H8 =>
opP (unA .not t5) fun t6 =>
wIf t6 (
opP (pickA t6 (.bool true) undef) fun t11 =>
J [t2, t11] H8) (
opW (loadAgg 36 t1 H8) fun t8 H12 =>
wCall P n_slot_full [t8] H12 fun t9 H14 =>
opP (unA .not t9) fun t10 =>
opP (pickA t6 (.bool true) t10) fun t11_1 =>
J [t2, t11_1] H14)) (fun l H18 =>
wIf (nth l 1) (
opP ((buildC P 26).f []) fun t12 =>
opW (storeTo 36 (nth l 0) t12 H18) fun u H21 =>
opW (loadAgg 36 (nth l 0) H21) fun r _ =>
K (.tuple [r, (.int .i64 101)].toArray) H21) (
opP ((buildC P 26).f [(0, (.int .i64 4))]) fun t13 =>
opW (storeTo 36 (nth l 0) t13 H18) fun u_1 H25 =>
opW (loadAgg 36 (nth l 0) H25) fun r_1 _ =>
K (.tuple [r_1, (.int .i64 0)].toArray) H25))
theorem slot_Bad_eq (t0 : Value) (H : Heap) (K : Value → Heap → Prop) : vcF P n_slot_Bad [t0] H K = slot_Bad t0 H K := by kernel_rfl
theorem slot_Bad_ok {t0 : Value} {H : Heap} {K : Value → Heap → Prop} (h : slot_Bad t0 H K) : wCall P n_slot_Bad [t0] H K := wCall_of_vcF rfl ((slot_Bad_eq t0 H K).mpr h)

/-! bootjack/boot.set -/
def boot_set (t0 t1 : Value) (H : Heap) (K : Value → Heap → Prop) : Prop :=
wNew (cellsL t1) H fun t3 H1 =>
wNew (zc P 58) H1 fun t4 H3 =>
opW (loadAgg 36 t3 H3) fun t6 H5 =>
opP ((buildC P 58).f [(0, (.int .i64 1)), (1, t0), (3, t6)]) fun t7 =>
opW (storeTo 40 t4 t7 H5) fun u H8 =>
opW (loadAgg 40 t4 H8) fun r _ =>
K r H8
theorem boot_set_eq (t0 t1 : Value) (H : Heap) (K : Value → Heap → Prop) : vcF P n_boot_set [t0, t1] H K = boot_set t0 t1 H K := by kernel_rfl
theorem boot_set_ok {t0 t1 : Value} {H : Heap} {K : Value → Heap → Prop} (h : boot_set t0 t1 H K) : wCall P n_boot_set [t0, t1] H K := wCall_of_vcF rfl ((boot_set_eq t0 t1 H K).mpr h)

/-! bootjack/boot.active -/
def boot_active (t0 : Value) (H : Heap) (K : Value → Heap → Prop) : Prop :=
wNew (zc P 58) H fun t2 H1 =>
opP ((buildC P 58).f [(0, (.int .i64 2)), (2, t0)]) fun t4 =>
opW (storeTo 40 t2 t4 H1) fun u H4 =>
opW (loadAgg 40 t2 H4) fun r _ =>
K r H4
theorem boot_active_eq (t0 : Value) (H : Heap) (K : Value → Heap → Prop) : vcF P n_boot_active [t0] H K = boot_active t0 H K := by kernel_rfl
theorem boot_active_ok {t0 : Value} {H : Heap} {K : Value → Heap → Prop} (h : boot_active t0 H K) : wCall P n_boot_active [t0] H K := wCall_of_vcF rfl ((boot_active_eq t0 H K).mpr h)

/-! bootjack/slot.Try -/
def slot_Try (t0 : Value) (H : Heap) (K : Value → Heap → Prop) : Prop :=
wNew (cellsL t0) H fun t1 H1 =>
wNew (zc P 26) H1 fun t2 H3 =>
wJoin (fun J =>
opW (loadAgg 36 t1 H3) fun t4 H6 =>
wCall P n_slot_Right [t4] H6 fun t5 H8 =>
opP (unA .not t5) fun t6 =>
wIf t6 (
opP (pickA t6 (.bool true) undef) fun t11 =>
opP (pickA t11 (.bool true) undef) fun t16 =>
J [t1, t2, t16] H8) (
opP (offPtr 0 t1) fun t8 =>
opW (loadOne t8 H8) fun t9 H14 =>
opP ((binC P .neq 3 true).f t9 (.int .i64 2)) fun t10 =>
opP (pickA t6 (.bool true) t10) fun t11_1 =>
wIf t11_1 (
opP (pickA t11_1 (.bool true) undef) fun t16_1 =>
J [t1, t2, t16_1] H14) (
opP (offPtr 1 t1) fun t13 =>
opW (loadOne t13 H14) fun t14 H20 =>
opP ((binC P .eql 3 true).f t14 (.int .i64 0)) fun t15 =>
opP (pickA t11_1 (.bool true) t15) fun t16_2 =>
J [t1, t2, t16_2] H20))) (fun l H24 =>
wIf (nth l 2) (
opP ((buildC P 26).f []) fun t17 =>
opW (storeTo 36 (nth l 1) t17 H24) fun u H27 =>
opW (loadAgg 36 (nth l 1) H27) fun r _ =>
K (.tuple [r, (.int .i64 101)].toArray) H27) (
opP (offPtr 1 (nth l 0)) fun t18 =>
opW (loadOne t18 H24) fun t19 H31 =>
opP ((binC P .sub 3 true).f t19 (.int .i64 1)) fun t20 =>
opP (offPtr 1 (nth l 0)) fun t21 =>
opW (storeTo 1 t21 t20 H31) fun u_1 H35 =>
opW (loadAgg 36 (nth l 0) H35) fun t22 H37 =>
opW (storeTo 36 (nth l 1) t22 H37) fun u_2 H39 =>
opW (loadAgg 36 (nth l 1) H39) fun r_1 _ =>
K (.tuple [r_1, (.int .i64 0)].toArray) H39))
theorem slot_Try_eq (t0 : Value) (H : Heap) (K : Value → Heap → Prop) : vcF P n_slot_Try [t0] H K = slot_Try t0 H K := by kernel_rfl
theorem slot_Try_ok {t0 : Value} {H : Heap} {K : Value → Heap → Prop} (h : slot_Try t0 H K) : wCall P n_slot_Try [t0] H K := wCall_of_vcF rfl ((slot_Try_eq t0 H K).mpr h)

/-! bootjack/bootjackref10.Bad -/
def ref10_Bad (t0 : Value) (H : Heap) (K : Value → Heap → Prop) : Prop :=
wNew (cellsL t0) H fun t1 H1 =>
wNew (zc P 26) H1 fun t2 H3 =>
wJoin (fun J =>
opW (loadAgg 36 t1 H3) fun t4 H6 =>
wCall P n_ref10_Right [t4] H6 fun t5 H8 =>
opP (unA .not t5) fun t6 =>
wIf t6 (
opP (pickA t6 (.bool true) undef) fun t16 =>
J [t2, t16] H8) (
opP (offPtr 0 t1) fun t8 =>
opW (loadOne t8 H8) fun t9 H13 =>
opP ((binC P .neq 3 true).f t9 (.int .i64 2)) fun t10 =>
wIf t10 (
opP (offPtr 0 t1) fun t12 =>
opW (loadOne t12 H13) fun t13 H17 =>
opP ((binC P .neq 3 true).f t13 (.int .i64 3)) fun t14 =>
opP (pickA t10 t14 (.bool false)) fun t15 =>
opP (pickA t6 (.bool true) t15) fun t16_1 =>
J [t2, t16_1] H17) (
opP (pickA t10 undef (.bool false)) fun t15_1 =>
opP (pickA t6 (.bool true) t15_1) fun t16_2 =>
J [t2, t16_2] H13))) (fun l H24 =>
wIf (nth l 1) (
opP ((buildC P 26).f []) fun t17 =>
opW (storeTo 36 (nth l 0) t17 H24) fun u H27 =>
opW (loadAgg 36 (nth l 0) H27) fun r _ =>
K (.tuple [r, (.int .i64 101)].toArray) H27) (
opP ((buildC P 26).f [(0, (.int .i64 4))]) fun t18 =>
opW (storeTo 36 (nth l 0) t18 H24) fun u_1 H31 =>
opW (loadAgg 36 (nth l 0) H31) fun r_1 _ =>
K (.tuple [r_1, (.int .i64 0)].toArray) H31))
theorem ref10_Bad_eq (t0 : Value) (H : Heap) (K : Value → Heap → Prop) : vcF P n_ref10_Bad [t0] H K = ref10_Bad t0 H K := by kernel_rfl
theorem ref10_Bad_ok {t0 : Value} {H : Heap} {K : Value → Heap → Prop} (h : ref10_Bad t0 H K) : wCall P n_ref10_Bad [t0] H K := wCall_of_vcF rfl ((ref10_Bad_eq t0 H K).mpr h)

/-! bootjack/bootjackref10.Try -/
def ref10_Try (t0 : Value) (H : Heap) (K : Value → Heap → Prop) : Prop :=
wNew (cellsL t0) H fun t1 H1 =>
wNew (zc P 26) H1 fun t2 H3 =>
wJoin (fun J =>
opW (loadAgg 36 t1 H3) fun t4 H6 =>
wCall P n_ref10_Right [t4] H6 fun t5 H8 =>
opP (unA .not t5) fun t6 =>
wIf t6 (
opP (pickA t6 (.bool true) undef) fun t11 =>
opP (pickA t11 (.bool true) undef) fun t16 =>
J [t1, t2, t16] H8) (
opP (offPtr 0 t1) fun t8 =>
opW (loadOne t8 H8) fun t9 H14 =>
opP ((binC P .neq 3 true).f t9 (.int .i64 2)) fun t10 =>
opP (pickA t6 (.bool true) t10) fun t11_1 =>
wIf t11_1 (
opP (pickA t11_1 (.bool true) undef) fun t16_1 =>
J [t1, t2, t16_1] H14) (
opP (offPtr 1 t1) fun t13 =>
opW (loadOne t13 H14) fun t14 H20 =>
opP ((binC P .lss 3 true).f t14 (.int .i64 1)) fun t15 =>
opP (pickA t11_1 (.bool true) t15) fun t16_2 =>
J [t1, t2, t16_2] H20))) (fun l H24 =>
wIf (nth l 2) (
opP ((buildC P 26).f []) fun t17 =>
opW (storeTo 36 (nth l 1) t17 H24) fun u H27 =>
opW (loadAgg 36 (nth l 1) H27) fun r _ =>
K (.tuple [r, (.int .i64 101)].toArray) H27) (
opP (offPtr 1 (nth l 0)) fun t18 =>
opW (loadOne t18 H24) fun t19 H31 =>
opP ((binC P .sub 3 true).f t19 (.int .i64 1)) fun t20 =>
opP (offPtr 1 (nth l 0)) fun t21 =>
opW (storeTo 1 t21 t20 H31) fun u_1 H35 =>
opW (loadAgg 36 (nth l 0) H35) fun t22 H37 =>
opW (storeTo 36 (nth l 1) t22 H37) fun u_2 H39 =>
opW (loadAgg 36 (nth l 1) H39) fun r_1 _ =>
K (.tuple [r_1, (.int .i64 0)].toArray) H39))
theorem ref10_Try_eq (t0 : Value) (H : Heap) (K : Value → Heap → Prop) : vcF P n_ref10_Try [t0] H K = ref10_Try t0 H K := by kernel_rfl
theorem ref10_Try_ok {t0 : Value} {H : Heap} {K : Value → Heap → Prop} (h : ref10_Try t0 H K) : wCall P n_ref10_Try [t0] H K := wCall_of_vcF rfl ((ref10_Try_eq t0 H K).mpr h)

/-! (bootjack/boot.view).other -/
def boot_view_other (t0 : Value) (H : Heap) (K : Value → Heap → Prop) : Prop :=
wNew (cellsL t0) H fun t1 H1 =>
opP (offPtr 0 t1) fun t3 =>
opP (offPtr 72 t3) fun t4 =>
opW (loadOne t4 H1) fun t5 H5 =>
opP ((binC P .sub 3 true).f (.int .i64 1) t5) fun t6 =>
K t6 H5
theorem boot_view_other_eq (t0 : Value) (H : Heap) (K : Value → Heap → Prop) : vcF P n_boot_view_other [t0] H K = boot_view_other t0 H K := by kernel_rfl
theorem boot_view_other_ok {t0 : Value} {H : Heap} {K : Value → Heap → Prop} (h : boot_view_other t0 H K) : wCall P n_boot_view_other [t0] H K := wCall_of_vcF rfl ((boot_view_other_eq t0 H K).mpr h)

/-! bootjack/boot.has -/
def boot_has (t0 : Value) (H : Heap) (K : Value → Heap → Prop) : Prop :=
opP ((binC P .eql 3 true).f t0 (.int .i64 0)) fun t4 =>
wIf t4 (
opP (pickA t4 (.bool true) undef) fun t8 =>
K t8 H) (
opP ((binC P .eql 3 true).f t0 (.int .i64 1)) fun t7 =>
opP (pickA t4 (.bool true) t7) fun t8_1 =>
K t8_1 H)
theorem boot_has_eq (t0 : Value) (H : Heap) (K : Value → Heap → Prop) : vcF P n_boot_has [t0] H K = boot_has t0 H K := by kernel_rfl
theorem boot_has_ok {t0 : Value} {H : Heap} {K : Value → Heap → Prop} (h : boot_has t0 H K) : wCall P n_boot_has [t0] H K := wCall_of_vcF rfl ((boot_has_eq t0 H K).mpr h)

/-! bootjack/slot.Right -/
def slot_Right (t0 : Value) (H : Heap) (K : Value → Heap → Prop) : Prop :=
wNew (cellsL t0) H fun t1 H1 =>
wJoin (fun J =>
opP (offPtr 0 t1) fun t3 =>
opW (loadOne t3 H1) fun t4 H5 =>
wJoin (fun J_1 =>
opP ((binC P .eql 3 true).f t4 (.int .i64 0)) fun t6 =>
wIf t6 (
J_1 [t1, t4, t6] H5) (
opP ((binC P .eql 3 true).f t4 (.int .i64 1)) fun t7 =>
wIf t7 (
J_1 [t1, t4, t7] H5) (
opP ((binC P .eql 3 true).f t4 (.int .i64 4)) fun t8 =>
J_1 [t1, t4, t8] H5))) (fun l H11 =>
wIf (nth l 2) (
opW (loadAgg 36 (nth l 0) H11) fun t9 H13 =>
opP (offPtr 0 (nth l 0)) fun t10 =>
opW (loadOne t10 H13) fun t11 H16 =>
opP ((buildC P 26).f [(0, t11)]) fun t12 =>
opP ((binC P .eql 26 false).f t9 t12) fun t13 =>
K t13 H16) (
opP ((binC P .eql 3 true).f (nth l 1) (.int .i64 2)) fun t15 =>
wIf t15 (
opP (offPtr 1 (nth l 0)) fun t16 =>
opW (loadOne t16 H11) fun t17 H22 =>
opP ((binC P .lss 3 true).f t17 (.int .i64 0)) fun t18 =>
wIf t18 (
opP (pickA t18 (.bool true) undef) fun t23 =>
wIf t23 (
K (.bool false) H22) (
J [(nth l 0)] H22)) (
opP (offPtr 1 (nth l 0)) fun t20 =>
opW (loadOne t20 H22) fun t21 H27 =>
opP ((binC P .gtr 3 true).f t21 (.int .i64 7)) fun t22 =>
opP (pickA t18 (.bool true) t22) fun t23_1 =>
wIf t23_1 (
K (.bool false) H27) (
J [(nth l 0)] H27))) (
opP ((binC P .eql 3 true).f (nth l 1) (.int .i64 3)) fun t25 =>
wIf t25 (
opP (offPtr 1 (nth l 0)) fun t26 =>
opW (loadOne t26 H11) fun t27 H33 =>
opP ((binC P .neq 3 true).f t27 (.int .i64 0)) fun t28 =>
wIf t28 (
K (.bool false) H33) (
J [(nth l 0)] H33)) (
K (.bool false) H11))))) (fun l_1 H36 =>
opP (offPtr 2 (nth l_1 0)) fun t29 =>
opW (loadOne t29 H36) fun t30 H39 =>
opP ((binC P .geq 22 true).f t30 (.int .u64 1)) fun t31 =>
wIf t31 (
opP (offPtr 2 (nth l_1 0)) fun t33 =>
opW (loadOne t33 H39) fun t34 H43 =>
opP ((binC P .leq 22 true).f t34 (.int .u64 281474976710656)) fun t35 =>
opP (pickA t31 t35 (.bool false)) fun t36 =>
wIf t36 (
opP (offPtr 3 (nth l_1 0)) fun t38 =>
opW (loadOne t38 H43) fun t39 H48 =>
opP ((binC P .geq 3 true).f t39 (.int .i64 1)) fun t40 =>
opP (pickA t36 t40 (.bool false)) fun t41 =>
wIf t41 (
opP (offPtr 3 (nth l_1 0)) fun t43 =>
opW (loadOne t43 H48) fun t44 H53 =>
opP ((binC P .leq 3 true).f t44 (.int .i64 65536)) fun t45 =>
opP (pickA t41 t45 (.bool false)) fun t46 =>
K t46 H53) (
opP (pickA t41 undef (.bool false)) fun t46_1 =>
K t46_1 H48)) (
opP (pickA t36 undef (.bool false)) fun t41_1 =>
opP (pickA t41_1 undef (.bool false)) fun t46_2 =>
K t46_2 H43)) (
opP (pickA t31 undef (.bool false)) fun t36_1 =>
opP (pickA t36_1 undef (.bool false)) fun t41_2 =>
opP (pickA t41_2 undef (.bool false)) fun t46_3 =>
K t46_3 H39))
theorem slot_Right_eq (t0 : Value) (H : Heap) (K : Value → Heap → Prop) : vcF P n_slot_Right [t0] H K = slot_Right t0 H K := by kernel_rfl
theorem slot_Right_ok {t0 : Value} {H : Heap} {K : Value → Heap → Prop} (h : slot_Right t0 H K) : wCall P n_slot_Right [t0] H K := wCall_of_vcF rfl ((slot_Right_eq t0 H K).mpr h)

/-! bootjack/slot.Good -/
def slot_Good (t0 : Value) (H : Heap) (K : Value → Heap → Prop) : Prop :=
wNew (cellsL t0) H fun t1 H1 =>
wNew (zc P 26) H1 fun t2 H3 =>
wJoin (fun J =>
opW (loadAgg 36 t1 H3) fun t4 H6 =>
wCall P n_slot_Right [t4] H6 fun t5 H8 =>
opP (unA .not t5) fun t6 =>
wIf t6 (
opP (pickA t6 (.bool true) undef) fun t11 =>
J [t1, t2, t11] H8) (
opW (loadAgg 36 t1 H8) fun t8 H12 =>
wCall P n_slot_full [t8] H12 fun t9 H14 =>
opP (unA .not t9) fun t10 =>
opP (pickA t6 (.bool true) t10) fun t11_1 =>
J [t1, t2, t11_1] H14)) (fun l H18 =>
wIf (nth l 2) (
opP ((buildC P 26).f []) fun t12 =>
opW (storeTo 36 (nth l 1) t12 H18) fun u H21 =>
opW (loadAgg 36 (nth l 1) H21) fun r _ =>
K (.tuple [r, (.int .i64 101)].toArray) H21) (
opP (offPtr 0 (nth l 0)) fun t13 =>
opW (storeTo 1 t13 (.int .i64 3) H18) fun u_1 H25 =>
opP (offPtr 1 (nth l 0)) fun t14 =>
opW (storeTo 1 t14 (.int .i64 0) H25) fun u_2 H28 =>
opW (loadAgg 36 (nth l 0) H28) fun t15 H30 =>
opW (storeTo 36 (nth l 1) t15 H30) fun u_3 H32 =>
opW (loadAgg 36 (nth l 1) H32) fun r_1 _ =>
K (.tuple [r_1, (.int .i64 0)].toArray) H32))
theorem slot_Good_eq (t0 : Value) (H : Heap) (K : Value → Heap → Prop) : vcF P n_slot_Good [t0] H K = slot_Good t0 H K := by kernel_rfl
theorem slot_Good_ok {t0 : Value} {H : Heap} {K : Value → Heap → Prop} (h : slot_Good t0 H K) : wCall P n_slot_Good [t0] H K := wCall_of_vcF rfl ((slot_Good_eq t0 H K).mpr h)

/-! bootjack/bootjackref10.Good -/
def ref10_Good (t0 : Value) (H : Heap) (K : Value → Heap → Prop) : Prop :=
wNew (cellsL t0) H fun t1 H1 =>
wNew (zc P 26) H1 fun t2 H3 =>
wJoin (fun J =>
opW (loadAgg 36 t1 H3) fun t4 H6 =>
wCall P n_ref10_Right [t4] H6 fun t5 H8 =>
opP (unA .not t5) fun t6 =>
wIf t6 (
opP (pickA t6 (.bool true) undef) fun t16 =>
J [t1, t2, t16] H8) (
opP (offPtr 0 t1) fun t8 =>
opW (loadOne t8 H8) fun t9 H13 =>
opP ((binC P .neq 3 true).f t9 (.int .i64 2)) fun t10 =>
wIf t10 (
opP (offPtr 0 t1) fun t12 =>
opW (loadOne t12 H13) fun t13 H17 =>
opP ((binC P .neq 3 true).f t13 (.int .i64 3)) fun t14 =>
opP (pickA t10 t14 (.bool false)) fun t15 =>
opP (pickA t6 (.bool true) t15) fun t16_1 =>
J [t1, t2, t16_1] H17) (
opP (pickA t10 undef (.bool false)) fun t15_1 =>
opP (pickA t6 (.bool true) t15_1) fun t16_2 =>
J [t1, t2, t16_2] H13))) (fun l H24 =>
wIf (nth l 2) (
opP ((buildC P 26).f []) fun t17 =>
opW (storeTo 36 (nth l 1) t17 H24) fun u H27 =>
opW (loadAgg 36 (nth l 1) H27) fun r _ =>
K (.tuple [r, (.int .i64 101)].toArray) H27) (
opP (offPtr 2 (nth l 0)) fun t18 =>
opW (loadOne t18 H24) fun t19 H31 =>
opP (offPtr 3 (nth l 0)) fun t20 =>
opW (loadOne t20 H31) fun t21 H34 =>
opP (offPtr 4 (nth l 0)) fun t22 =>
opW (loadAgg 32 t22 H34) fun t23 H37 =>
opP ((buildC P 26).f [(0, (.int .i64 3)), (2, t19), (3, t21), (4, t23)]) fun t24 =>
opW (storeTo 36 (nth l 1) t24 H37) fun u_1 H40 =>
opW (loadAgg 36 (nth l 1) H40) fun r_1 _ =>
K (.tuple [r_1, (.int .i64 0)].toArray) H40))
theorem ref10_Good_eq (t0 : Value) (H : Heap) (K : Value → Heap → Prop) : vcF P n_ref10_Good [t0] H K = ref10_Good t0 H K := by kernel_rfl
theorem ref10_Good_ok {t0 : Value} {H : Heap} {K : Value → Heap → Prop} (h : ref10_Good t0 H K) : wCall P n_ref10_Good [t0] H K := wCall_of_vcF rfl ((ref10_Good_eq t0 H K).mpr h)

/-! bootjack/table.Right -/
def table_Right (t0 : Value) (H : Heap) (K : Value → Heap → Prop) : Prop :=
wNew (cellsL t0) H fun t1 H1 =>
opP (offPtr 0 t1) fun t3 =>
opP (idxPtr 2 36 t3 (.int .i64 0)) fun t4 =>
opW (loadAgg 36 t4 H1) fun t5 H5 =>
wCall P n_slot_Right [t5] H5 fun t6 H7 =>
wIf t6 (
opP (offPtr 0 t1) fun t8 =>
opP (idxPtr 2 36 t8 (.int .i64 1)) fun t9 =>
opW (loadAgg 36 t9 H7) fun t10 H11 =>
wCall P n_slot_Right [t10] H11 fun t11 H13 =>
opP (pickA t6 t11 (.bool false)) fun t12 =>
wIf t12 (
opP (offPtr 72 t1) fun t14 =>
opW (loadOne t14 H13) fun t15 H17 =>
wCall P n_table_index [t15] H17 fun t16 H19 =>
opP (pickA t12 t16 (.bool false)) fun t17 =>
wIf t17 (
opP (offPtr 73 t1) fun t19 =>
opW (loadOne t19 H19) fun t20 H23 =>
opP ((binC P .eql 3 true).f t20 (.int .i64 (-1))) fun t21 =>
wIf t21 (
opP (pickA t21 (.bool true) undef) fun t26 =>
opP (pickA t17 t26 (.bool false)) fun t27 =>
opP (offPtr 74 t1) fun t29 =>
opW (loadOne t29 H23) fun t30 H29 =>
opP ((binC P .leq 22 true).f t30 (.int .u64 281474976710656)) fun t31 =>
opP (pickA t27 t31 (.bool false)) fun t32 =>
K t32 H29) (
opP (offPtr 73 t1) fun t23 =>
opW (loadOne t23 H23) fun t24 H34 =>
wCall P n_table_index [t24] H34 fun t25 H36 =>
opP (pickA t21 (.bool true) t25) fun t26_1 =>
opP (pickA t17 t26_1 (.bool false)) fun t27_1 =>
wIf t27_1 (
opP (offPtr 74 t1) fun t29_1 =>
opW (loadOne t29_1 H36) fun t30_1 H41 =>
opP ((binC P .leq 22 true).f t30_1 (.int .u64 281474976710656)) fun t31_1 =>
opP (pickA t27_1 t31_1 (.bool false)) fun t32_1 =>
K t32_1 H41) (
opP (pickA t27_1 undef (.bool false)) fun t32_2 =>
K t32_2 H36))) (
opP (pickA t17 undef (.bool false)) fun t27_2 =>
opP (pickA t27_2 undef (.bool false)) fun t32_3 =>
K t32_3 H19)) (
opP (pickA t12 undef (.bool false)) fun t17_1 =>
opP (pickA t17_1 undef (.bool false)) fun t27_3 =>
opP (pickA t27_3 undef (.bool false)) fun t32_4 =>
K t32_4 H13)) (
opP (pickA t6 undef (.bool false)) fun t12_1 =>
opP (pickA t12_1 undef (.bool false)) fun t17_2 =>
opP (pickA t17_2 undef (.bool false)) fun t27_4 =>
opP (pickA t27_4 undef (.bool false)) fun t32_5 =>
K t32_5 H7)
theorem table_Right_eq (t0 : Value) (H : Heap) (K : Value → Heap → Prop) : vcF P n_table_Right [t0] H K = table_Right t0 H K := by kernel_rfl
theorem table_Right_ok {t0 : Value} {H : Heap} {K : Value → Heap → Prop} (h : table_Right t0 H K) : wCall P n_table_Right [t0] H K := wCall_of_vcF rfl ((table_Right_eq t0 H K).mpr h)

/-! bootjack/table.transaction -/
noncomputable abbrev table_transaction_P0 : Code := loopAt P n_table_transaction 0
/-- loop 0: goes on from the slots [2, 8, 9, 10]; leaves [2] -/
def table_transaction_L0 (l : List Value) (H : Heap) (N : List Value → Heap → Prop) (Qx : Nat → List Value → Heap → Prop) (Qr : List Value → Heap → Prop) : Prop :=
opP ((binC P .lss 3 false).f (nth l 3) (nth l 2)) fun t11 =>
wIf t11 (
opP (idxSl 40 (nth l 1) (nth l 3)) fun t12 =>
opW (loadAgg 40 t12 H) fun t13 H3 =>
wNew (zc P 58) H3 fun t4 H5 =>
opW (storeTo 40 t4 t13 H5) fun u H7 =>
opW (loadAgg 40 t4 H7) fun t14 H9 =>
wCall P n_table_right [t14] H9 fun t15 H11 =>
opP (unA .not t15) fun t16 =>
wIf t16 (
Qr [(.bool false)] H11) (
opP ((binC P .add 3 true).f (nth l 3) (.int .i64 1)) fun t17 =>
N [(nth l 0), (nth l 1), (nth l 2), t17] H11)) (
Qx 0 [(nth l 0)] H)
theorem table_transaction_L0_eq (l : List Value) (H : Heap) (N : List Value → Heap → Prop) (Qx : Nat → List Value → Heap → Prop) (Qr : List Value → Heap → Prop) : vcC P true 18 table_transaction_P0 (live table_transaction_P0 0 4) 4 (envOf (bits 18 (live table_transaction_P0 0 4)) l) H (loopQ 18 table_transaction_P0 4 N Qx Qr) = table_transaction_L0 l H N Qx Qr := by kernel_rfl
theorem table_transaction_L0_ind (I : Nat → List Value → Heap → Prop) (Qx : Nat → List Value → Heap → Prop) (Qr : List Value → Heap → Prop) (hs : ∀ k l H, I k l H → table_transaction_L0 l H (fun l H => ∃ k', k' < k ∧ I k' l H) Qx Qr) (k : Nat) (l : List Value) (H : Heap) (h : I k l H) : wLoop P true 18 table_transaction_P0 4 l H Qx Qr :=
  loop_ind (by kernel_rfl) I (fun k l H h => (table_transaction_L0_eq l H _ Qx Qr).mpr (hs k l H h)) k l H h
def table_transaction (t0 : Value) (H : Heap) (K : Value → Heap → Prop) : Prop :=
opW (lenSl t0 H) fun t6 H1 =>
opP ((binC P .gtr 3 true).f t6 (.int .i64 8)) fun t7 =>
wIf t7 (
K (.bool false) H1) (
opW (lenSl t0 H1) fun t9 H4 =>
wLoop P true 18 table_transaction_P0 4 [(.bool false), t0, t9, (.int .i64 0)] H4 (fun id l H6 =>
cond (Nat.beq id 0) (
K (.bool true) H6) (
False)) (fun l H6 =>
K (nth l 0) H6))
theorem table_transaction_eq (t0 : Value) (H : Heap) (K : Value → Heap → Prop) : vcF P n_table_transaction [t0] H K = table_transaction t0 H K := by kernel_rfl
theorem table_transaction_ok {t0 : Value} {H : Heap} {K : Value → Heap → Prop} (h : table_transaction t0 H K) : wCall P n_table_transaction [t0] H K := wCall_of_vcF rfl ((table_transaction_eq t0 H K).mpr h)

/-! bootjack/slot.Bootable -/
def slot_Bootable (t0 : Value) (H : Heap) (K : Value → Heap → Prop) : Prop :=
wNew (cellsL t0) H fun t1 H1 =>
opW (loadAgg 36 t1 H1) fun t3 H3 =>
wCall P n_slot_Right [t3] H3 fun t4 H5 =>
wIf t4 (
opP (offPtr 0 t1) fun t6 =>
opW (loadOne t6 H5) fun t7 H8 =>
opP ((binC P .eql 3 true).f t7 (.int .i64 3)) fun t8 =>
wIf t8 (
opP (pickA t8 (.bool true) undef) fun t18 =>
opP (pickA t4 t18 (.bool false)) fun t19 =>
K t19 H8) (
opP (offPtr 0 t1) fun t10 =>
opW (loadOne t10 H8) fun t11 H14 =>
opP ((binC P .eql 3 true).f t11 (.int .i64 2)) fun t12 =>
wIf t12 (
opP (offPtr 1 t1) fun t14 =>
opW (loadOne t14 H14) fun t15 H18 =>
opP ((binC P .gtr 3 true).f t15 (.int .i64 0)) fun t16 =>
opP (pickA t12 t16 (.bool false)) fun t17 =>
opP (pickA t8 (.bool true) t17) fun t18_1 =>
opP (pickA t4 t18_1 (.bool false)) fun t19_1 =>
K t19_1 H18) (
opP (pickA t12 undef (.bool false)) fun t17_1 =>
opP (pickA t8 (.bool true) t17_1) fun t18_2 =>
opP (pickA t4 t18_2 (.bool false)) fun t19_2 =>
K t19_2 H14))) (
opP (pickA t4 undef (.bool false)) fun t19_3 =>
K t19_3 H5)
theorem slot_Bootable_eq (t0 : Value) (H : Heap) (K : Value → Heap → Prop) : vcF P n_slot_Bootable [t0] H K = slot_Bootable t0 H K := by kernel_rfl
theorem slot_Bootable_ok {t0 : Value} {H : Heap} {K : Value → Heap → Prop} (h : slot_Bootable t0 H K) : wCall P n_slot_Bootable [t0] H K := wCall_of_vcF rfl ((slot_Bootable_eq t0 H K).mpr h)

/-! bootjack/slot.full -/
def slot_full (t0 : Value) (H : Heap) (K : Value → Heap → Prop) : Prop :=
wNew (cellsL t0) H fun t1 H1 =>
opP (offPtr 0 t1) fun t3 =>
opW (loadOne t3 H1) fun t4 H4 =>
opP ((binC P .eql 3 true).f t4 (.int .i64 2)) fun t5 =>
wIf t5 (
opP (pickA t5 (.bool true) undef) fun t10 =>
K t10 H4) (
opP (offPtr 0 t1) fun t7 =>
opW (loadOne t7 H4) fun t8 H9 =>
opP ((binC P .eql 3 true).f t8 (.int .i64 3)) fun t9 =>
opP (pickA t5 (.bool true) t9) fun t10_1 =>
K t10_1 H9)
theorem slot_full_eq (t0 : Value) (H : Heap) (K : Value → Heap → Prop) : vcF P n_slot_full [t0] H K = slot_full t0 H K := by kernel_rfl
theorem slot_full_ok {t0 : Value} {H : Heap} {K : Value → Heap → Prop} (h : slot_full t0 H K) : wCall P n_slot_full [t0] H K := wCall_of_vcF rfl ((slot_full_eq t0 H K).mpr h)

/-! bootjack/table.index -/
def table_index (t0 : Value) (H : Heap) (K : Value → Heap → Prop) : Prop :=
opP ((binC P .eql 3 true).f t0 (.int .i64 0)) fun t4 =>
wIf t4 (
opP (pickA t4 (.bool true) undef) fun t8 =>
K t8 H) (
opP ((binC P .eql 3 true).f t0 (.int .i64 1)) fun t7 =>
opP (pickA t4 (.bool true) t7) fun t8_1 =>
K t8_1 H)
theorem table_index_eq (t0 : Value) (H : Heap) (K : Value → Heap → Prop) : vcF P n_table_index [t0] H K = table_index t0 H K := by kernel_rfl
theorem table_index_ok {t0 : Value} {H : Heap} {K : Value → Heap → Prop} (h : table_index t0 H K) : wCall P n_table_index [t0] H K := wCall_of_vcF rfl ((table_index_eq t0 H K).mpr h)

/-! bootjack/table.right -/
def table_right (t0 : Value) (H : Heap) (K : Value → Heap → Prop) : Prop :=
wNew (cellsL t0) H fun t1 H1 =>
opP (offPtr 0 t1) fun t5 =>
opW (loadOne t5 H1) fun t6 H4 =>
opP ((buildC P 58).f [(0, t6)]) fun t7 =>
wNew (zc P 58) H4 fun t3 H7 =>
opW (storeTo 40 t3 t7 H7) fun u H9 =>
wJoin (fun J =>
opP (offPtr 0 t1) fun t8 =>
opW (loadOne t8 H9) fun t9 H13 =>
opP ((binC P .eql 3 true).f t9 (.int .i64 1)) fun t11 =>
wIf t11 (
opP (offPtr 1 t1) fun t12 =>
opW (loadOne t12 H13) fun t13 H17 =>
opP (offPtr 3 t1) fun t14 =>
opW (loadAgg 36 t14 H17) fun t15 H20 =>
opP (offPtr 1 t3) fun t16 =>
opW (storeTo 1 t16 t13 H20) fun u_1 H23 =>
cApart (idsOf [t14]) (idsOf [t16, t13]) ∧ (opP (offPtr 3 t3) fun t17 =>
opW (storeTo 36 t17 t15 H23) fun u_2 H26 =>
opP (offPtr 1 t1) fun t18 =>
opW (loadOne t18 H26) fun t19 H29 =>
wCall P n_table_index [t19] H29 fun t20 H31 =>
wIf t20 (
opP (offPtr 3 t1) fun t22 =>
opW (loadAgg 36 t22 H31) fun t23 H34 =>
wCall P n_slot_Right [t23] H34 fun t24 H36 =>
opP (pickA t20 t24 (.bool false)) fun t25 =>
J [t1, t3, t25] H36) (
opP (pickA t20 undef (.bool false)) fun t25_1 =>
J [t1, t3, t25_1] H31))) (
opP ((binC P .eql 3 true).f t9 (.int .i64 2)) fun t27 =>
wIf t27 (
opP (offPtr 2 t1) fun t28 =>
opW (loadOne t28 H13) fun t29 H42 =>
opP (offPtr 2 t3) fun t30 =>
opW (storeTo 1 t30 t29 H42) fun u_3 H45 =>
opP (offPtr 2 t1) fun t31 =>
opW (loadOne t31 H45) fun t32 H48 =>
wCall P n_table_index [t32] H48 fun t33 H50 =>
J [t1, t3, t33] H50) (
opP ((binC P .eql 3 true).f t9 (.int .i64 3)) fun t35 =>
wIf t35 (
opP (offPtr 2 t1) fun t36 =>
opW (loadOne t36 H13) fun t37 H54 =>
opP (offPtr 2 t3) fun t38 =>
opW (storeTo 1 t38 t37 H54) fun u_4 H57 =>
opP (offPtr 2 t1) fun t39 =>
opW (loadOne t39 H57) fun t40 H60 =>
opP ((binC P .eql 3 true).f t40 (.int .i64 (-1))) fun t41 =>
wIf t41 (
opP (pickA t41 (.bool true) undef) fun t46 =>
J [t1, t3, t46] H60) (
opP (offPtr 2 t1) fun t43 =>
opW (loadOne t43 H60) fun t44 H65 =>
wCall P n_table_index [t44] H65 fun t45 H67 =>
opP (pickA t41 (.bool true) t45) fun t46_1 =>
J [t1, t3, t46_1] H67)) (
opP ((binC P .eql 3 true).f t9 (.int .i64 4)) fun t48 =>
wIf t48 (
opP (offPtr 39 t1) fun t49 =>
opW (loadOne t49 H13) fun t50 H72 =>
opP (offPtr 39 t3) fun t51 =>
opW (storeTo 1 t51 t50 H72) fun u_5 H75 =>
opP (offPtr 39 t1) fun t52 =>
opW (loadOne t52 H75) fun t53 H78 =>
opP ((binC P .leq 22 true).f t53 (.int .u64 281474976710656)) fun t54 =>
J [t1, t3, t54] H78) (
J [t1, t3, (.bool false)] H13))))) (fun l H81 =>
wIf (nth l 2) (
opW (loadAgg 40 (nth l 1) H81) fun t57 H83 =>
opW (loadAgg 40 (nth l 0) H83) fun t58 H85 =>
opP ((binC P .eql 58 false).f t57 t58) fun t59 =>
opP (pickA (nth l 2) t59 (.bool false)) fun t60 =>
K t60 H85) (
opP (pickA (nth l 2) undef (.bool false)) fun t60_1 =>
K t60_1 H81))
theorem table_right_eq (t0 : Value) (H : Heap) (K : Value → Heap → Prop) : vcF P n_table_right [t0] H K = table_right t0 H K := by kernel_rfl
theorem table_right_ok {t0 : Value} {H : Heap} {K : Value → Heap → Prop} (h : table_right t0 H K) : wCall P n_table_right [t0] H K := wCall_of_vcF rfl ((table_right_eq t0 H K).mpr h)

end
end B
