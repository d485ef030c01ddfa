/- texts of the proof, one behind the other -/
import Derived.Test.YtccblhllmplmaaaProg
import Derived.KernelRfl
import Derived.Test.YtccblhllmplmaaaUA
set_option linter.unusedVariables false
set_option maxRecDepth 100000
namespace J
open Go Go.Ab
noncomputable abbrev P : Program := Go.Proofs.Try.prog
noncomputable section
abbrev n_law11_TableFull : Nat := 8
abbrev n_law11_TableHolds : Nat := 9
abbrev n_law11_tableAlive : Nat := 10
abbrev n_table_Open : Nat := 11
abbrev n_law11_open : Nat := 12
abbrev n_table_Apply : Nat := 13
abbrev n_table_Parse : Nat := 14
abbrev n_table_Get : Nat := 15
abbrev n_table_Bytes : Nat := 16
abbrev n_table_Right : Nat := 18
abbrev n_table_Put : Nat := 21
abbrev n_table_Store_Do : Nat := 27
abbrev n_table_Store_Table : Nat := 28
abbrev n_table_Store_Left : Nat := 29
abbrev n_journal_Open : Nat := 30
abbrev n_part_Map_Device : Nat := 31
abbrev n_flash_Device_Budget : Nat := 32
abbrev n_flash_Device_Restart : Nat := 33
abbrev n_table_replay : Nat := 34
abbrev n_part_New : Nat := 35
abbrev n_flash_New : Nat := 36
abbrev n_table_transaction : Nat := 37
abbrev n_code_New : Nat := 38
abbrev n_slot_Read : Nat := 39
abbrev n_code_Reader_Fixed : Nat := 40
abbrev n_code_Reader_End : Nat := 41
abbrev n_table_change : Nat := 42
abbrev n_code_Raw : Nat := 43
abbrev n_slot_Bytes : Nat := 44
abbrev n_code_Fixed : Nat := 45
abbrev n_slot_Right : Nat := 47
abbrev n_table_index : Nat := 48
abbrev n_table_Store_keep : Nat := 55
abbrev n_journal_Journal_Left : Nat := 56
abbrev n_journal_stands : Nat := 57
abbrev n_flash_Device_Size : Nat := 58
abbrev n_flash_Blank : Nat := 59
abbrev n_table_right : Nat := 60
abbrev n_code_Reader_Raw : Nat := 61
abbrev n_code_Reader_Err : Nat := 62
abbrev n_slices_Backward_byte_byte : Nat := 63
abbrev n_code_Reader_take : Nat := 64
abbrev n_code_within : Nat := 65
abbrev n_slices_Concat_byte_byte : Nat := 66
abbrev n_slices_Clone_byte_byte : Nat := 67
abbrev n_journal_Journal_Ready : Nat := 71
abbrev n_journal_Journal_Append : Nat := 72
abbrev n_journal_Journal_Begin : Nat := 73
abbrev n_part_Map_Size : Nat := 74
abbrev n_journal_sectors : Nat := 75
abbrev n_frame_Get : Nat := 76
abbrev n_slices_Backward_byte_byte_1 : Nat := 77
abbrev n_code_Reader_fail : Nat := 78
abbrev n_slices_Grow_byte_byte : Nat := 79
abbrev n_frame_Put : Nat := 80
abbrev n_journal_Journal_write : Nat := 81
abbrev n_journal_Journal_Fits : Nat := 82
abbrev n_part_Map_Wipe : Nat := 83
abbrev n_part_Map_Sync : Nat := 84
abbrev n_part_Map_has : Nat := 85
abbrev n_part_Map_Read : Nat := 86
abbrev n_frame_Size : Nat := 87
abbrev n_frame_plain : Nat := 88
abbrev n_slices_Equal_api_Sector_api_Sector : Nat := 89
abbrev n_slices_Chunk_byte_byte : Nat := 90
abbrev n_frame_sealed : Nat := 91
abbrev n_part_Map_Program : Nat := 92
abbrev n_part_Map_Erase : Nat := 93
abbrev n_flash_Device_Sync : Nat := 94
abbrev n_part_Map_place : Nat := 95
abbrev n_flash_Device_Read : Nat := 96
abbrev n_slices_Chunk_byte_byte_1 : Nat := 97
abbrev n_crc_Sum : Nat := 98
abbrev n_part_Map_note : Nat := 99
abbrev n_flash_Device_Program : Nat := 100
abbrev n_flash_Device_Erase : Nat := 101
abbrev n_flash_Device_step : Nat := 102
abbrev n_flash_Device_cell : Nat := 103
abbrev n_crc_More : Nat := 104
abbrev n_flash_Device_set : Nat := 105
abbrev n_crc_step : Nat := 106
instance : Orc := orc1 n_law11_tableAlive
theorem law11_tableAlive_spec {H : Heap} {K : Value → Heap → Prop} (hk : K (.bool true) H) : wCall P n_law11_tableAlive [] H K := ⟨1, .ret, _, H, rfl, hk⟩
noncomputable abbrev law11_TableFull_P0 : Code := loopAt P n_law11_TableFull 0
def law11_TableFull_L0 (l : List Value) (H : Heap) (N : List Value → Heap → Prop) (Qx : Nat → List Value → Heap → Prop) (Qr : List Value → Heap → Prop) : Prop :=
opP ((binC P .lss 3 false).f (nth l 7) (nth l 1)) fun t63 =>
wIf t63 (
opW (loadAgg 75 (nth l 6) H) fun t67 H2 =>
wCall P n_table_Apply [t67, (nth l 0)] H2 fun t69 H4 =>
opP (extA 0 t69) fun t70 =>
opP (extA 1 t69) fun t71 =>
wNew (zc P 37) H4 fun t12 H8 =>
opW (storeTo 75 t12 t70 H8) fun u H10 =>
wCall P n_table_Store_Do [(nth l 5), (nth l 0)] H10 fun t74 H12 =>
opP ((binC P .neq 24 false).f t71 t74) fun t77 =>
wIf t77 (
Qr [(.bool false)] H12) (
wJoin (fun J =>
opP ((binC P .eql 24 true).f t71 (.int .i64 0)) fun t79 =>
wIf t79 (
opW (loadAgg 75 t12 H12) fun t80 H17 =>
opW (storeTo 75 (nth l 6) t80 H17) fun u_1 H19 =>
J [(nth l 0), (nth l 1), (nth l 2), (nth l 3), (nth l 4), (nth l 5), (nth l 6), (nth l 7), t71] H19) (
J [(nth l 0), (nth l 1), (nth l 2), (nth l 3), (nth l 4), (nth l 5), (nth l 6), (nth l 7), t71] H12)) (fun l_1 H21 =>
opP ((buildC P 37).f []) fun t83 =>
wCall P n_table_Open [(nth l_1 4), (.int .i64 0), (.int .i64 1), t83] H21 fun t84 H24 =>
opP (extA 0 t84) fun t85 =>
opP (extA 1 t84) fun t86 =>
wJoin (fun J_1 =>
opP ((binC P .neq 24 true).f t86 (.int .i64 0)) fun t88 =>
wIf t88 (
opP (pickA t88 (.bool true) undef) fun t92 =>
opP (pickA t92 (.bool true) undef) fun t98 =>
opP (pickA t98 (.bool true) undef) fun t104 =>
opP (pickA t104 (.bool true) undef) fun t109 =>
wIf t109 (
Qr [(.bool false)] H24) (
J_1 [(nth l_1 0), (nth l_1 1), (nth l_1 2), (nth l_1 3), (nth l_1 4), (nth l_1 5), (nth l_1 6), (nth l_1 7), (nth l_1 8)] H24)) (
opP ((binC P .eql 23 true).f t85 (.pointer none)) fun t91 =>
opP (pickA t88 (.bool true) t91) fun t92_1 =>
wIf t92_1 (
opP (pickA t92_1 (.bool true) undef) fun t98_1 =>
opP (pickA t98_1 (.bool true) undef) fun t104_1 =>
opP (pickA t104_1 (.bool true) undef) fun t109_1 =>
wIf t109_1 (
Qr [(.bool false)] H24) (
J_1 [(nth l_1 0), (nth l_1 1), (nth l_1 2), (nth l_1 3), (nth l_1 4), (nth l_1 5), (nth l_1 6), (nth l_1 7), (nth l_1 8)] H24)) (
wCall P n_table_Store_Table [t85] H24 fun t95 H39 =>
opW (loadAgg 75 (nth l_1 6) H39) fun t96 H41 =>
cSame (sameB H24 H39) (idsOf [(nth l_1 6)]) ∧ (opP ((binC P .neq 37 false).f t95 t96) fun t97 =>
opP (pickA t92_1 (.bool true) t97) fun t98_2 =>
wIf t98_2 (
opP (pickA t98_2 (.bool true) undef) fun t104_2 =>
opP (pickA t104_2 (.bool true) undef) fun t109_2 =>
wIf t109_2 (
Qr [(.bool false)] H41) (
J_1 [(nth l_1 0), (nth l_1 1), (nth l_1 2), (nth l_1 3), (nth l_1 4), (nth l_1 5), (nth l_1 6), (nth l_1 7), (nth l_1 8)] H41)) (
wCall P n_table_Store_Table [(nth l_1 5)] H41 fun t101 H47 =>
opW (loadAgg 75 (nth l_1 6) H47) fun t102 H49 =>
cSame (sameB H41 H47) (idsOf [(nth l_1 6)]) ∧ (opP ((binC P .neq 37 false).f t101 t102) fun t103 =>
opP (pickA t98_2 (.bool true) t103) fun t104_3 =>
wIf t104_3 (
opP (pickA t104_3 (.bool true) undef) fun t109_3 =>
wIf t109_3 (
Qr [(.bool false)] H49) (
J_1 [(nth l_1 0), (nth l_1 1), (nth l_1 2), (nth l_1 3), (nth l_1 4), (nth l_1 5), (nth l_1 6), (nth l_1 7), (nth l_1 8)] H49)) (
wCall P n_table_Store_Left [t85] H49 fun t107 H54 =>
opP ((binC P .neq 3 true).f t107 (.int .i64 0)) fun t108 =>
opP (pickA t104_3 (.bool true) t108) fun t109_4 =>
wIf t109_4 (
Qr [(.bool false)] H54) (
J_1 [(nth l_1 0), (nth l_1 1), (nth l_1 2), (nth l_1 3), (nth l_1 4), (nth l_1 5), (nth l_1 6), (nth l_1 7), (nth l_1 8)] H54)))))))) (fun l_2 H58 =>
wCall P n_journal_Open [(nth l_2 4), (.int .i64 0), (.int .i64 1)] H58 fun t112 H60 =>
opP (extA 0 t112) fun t113 =>
opP (extA 1 t112) fun t114 =>
opP ((binC P .eql 24 true).f (nth l_2 8) (.int .i64 0)) fun t116 =>
wIf t116 (
opW (lenSl t114 H60) fun t119 H65 =>
opP ((binC P .eql 3 true).f t119 (.int .i64 0)) fun t120 =>
wIf t120 (
opP (pickA t120 (.bool true) undef) fun t131 =>
opP (pickA t116 t131 (.bool false)) fun t132 =>
wIf t132 (
Qr [(.bool false)] H65) (
opP ((binC P .add 3 true).f (nth l_2 7) (.int .i64 1)) fun t65 =>
N [(nth l_2 0), (nth l_2 1), (nth l_2 2), (nth l_2 3), (nth l_2 4), (nth l_2 5), (nth l_2 6), t65] H65)) (
wCall P n_table_Store_Left [(nth l_2 5)] H65 fun t123 H71 =>
opP (idxPtr 2 1 (nth l_2 2) (.int .i64 0)) fun t124 =>
opW (loadOne t124 H71) fun t125 H74 =>
cSame (sameB H65 H71) (idsOf [t124]) ∧ (opP (idxPtr 2 1 (nth l_2 2) (.int .i64 1)) fun t126 =>
opW (loadOne t126 H74) fun t127 H77 =>
cSame (sameB H65 H71) (idsOf [t126]) ∧ (opW (withH H77 (maxA [t125, t127])) fun t128 H79 =>
opP ((binC P .sub 3 true).f t128 (.int .i64 2)) fun t129 =>
opP ((binC P .gtr 3 false).f t123 t129) fun t130 =>
opP (pickA t120 (.bool true) t130) fun t131_1 =>
opP (pickA t116 t131_1 (.bool false)) fun t132_1 =>
wIf t132_1 (
Qr [(.bool false)] H79) (
opP ((binC P .add 3 true).f (nth l_2 7) (.int .i64 1)) fun t65_1 =>
N [(nth l_2 0), (nth l_2 1), (nth l_2 2), (nth l_2 3), (nth l_2 4), (nth l_2 5), (nth l_2 6), t65_1] H79))))) (
opP (pickA t116 undef (.bool false)) fun t132_2 =>
wIf t132_2 (
Qr [(.bool false)] H60) (
opP ((binC P .add 3 true).f (nth l_2 7) (.int .i64 1)) fun t65_2 =>
N [(nth l_2 0), (nth l_2 1), (nth l_2 2), (nth l_2 3), (nth l_2 4), (nth l_2 5), (nth l_2 6), t65_2] H60)))))) (
Qx 0 [(nth l 3)] H)
theorem law11_TableFull_L0_eq (l : List Value) (H : Heap) (N : List Value → Heap → Prop) (Qx : Nat → List Value → Heap → Prop) (Qr : List Value → Heap → Prop) : vcC P true 133 law11_TableFull_P0 (live law11_TableFull_P0 0 64) 64 (envOf (bits 133 (live law11_TableFull_P0 0 64)) l) H (loopQ 133 law11_TableFull_P0 64 N Qx Qr) = law11_TableFull_L0 l H N Qx Qr := by kernel_rfl
theorem law11_TableFull_L0_ind (I : Nat → List Value → Heap → Prop) (Qx : Nat → List Value → Heap → Prop) (Qr : List Value → Heap → Prop) (hs : ∀ k l H, I k l H → law11_TableFull_L0 l H (fun l H => ∃ k', k' < k ∧ I k' l H) Qx Qr) (k : Nat) (l : List Value) (H : Heap) (h : I k l H) : wLoop P true 133 law11_TableFull_P0 64 l H Qx Qr :=
  loop_ind (by kernel_rfl) I (fun k l H h => (law11_TableFull_L0_eq l H _ Qx Qr).mpr (hs k l H h)) k l H h
def law11_TableFull (t0 t1 t2 : Value) (H : Heap) (K : Value → Heap → Prop) : Prop :=
wNew (cellsL t0) H fun t3 H1 =>
wCall P n_law11_tableAlive [] H1 fun t19 H3 =>
opP (unA .not t19) fun t20 =>
wIf t20 (
K (.bool false) H3) (
wJoin (fun J =>
opP (idxPtr 2 1 t3 (.int .i64 0)) fun t21 =>
opW (loadOne t21 H3) fun t22 H8 =>
opP ((binC P .lss 3 true).f t22 (.int .i64 2)) fun t23 =>
wIf t23 (
opP (pickA t23 (.bool true) undef) fun t28 =>
opP (pickA t28 (.bool true) undef) fun t33 =>
opP (pickA t33 (.bool true) undef) fun t38 =>
opP (pickA t38 (.bool true) undef) fun t43 =>
opP (pickA t43 (.bool true) undef) fun t47 =>
opP (pickA t47 (.bool true) undef) fun t51 =>
wIf t51 (
K (.bool true) H8) (
J [t1, t2, t3, (.bool false)] H8)) (
opP (idxPtr 2 1 t3 (.int .i64 1)) fun t25 =>
opW (loadOne t25 H8) fun t26 H18 =>
opP ((binC P .lss 3 true).f t26 (.int .i64 2)) fun t27 =>
opP (pickA t23 (.bool true) t27) fun t28_1 =>
wIf t28_1 (
opP (pickA t28_1 (.bool true) undef) fun t33_1 =>
opP (pickA t33_1 (.bool true) undef) fun t38_1 =>
opP (pickA t38_1 (.bool true) undef) fun t43_1 =>
opP (pickA t43_1 (.bool true) undef) fun t47_1 =>
opP (pickA t47_1 (.bool true) undef) fun t51_1 =>
wIf t51_1 (
K (.bool true) H18) (
J [t1, t2, t3, (.bool false)] H18)) (
opP (idxPtr 2 1 t3 (.int .i64 0)) fun t30 =>
opW (loadOne t30 H18) fun t31 H28 =>
opP ((binC P .gtr 3 true).f t31 (.int .i64 20)) fun t32 =>
opP (pickA t28_1 (.bool true) t32) fun t33_2 =>
wIf t33_2 (
opP (pickA t33_2 (.bool true) undef) fun t38_2 =>
opP (pickA t38_2 (.bool true) undef) fun t43_2 =>
opP (pickA t43_2 (.bool true) undef) fun t47_2 =>
opP (pickA t47_2 (.bool true) undef) fun t51_2 =>
wIf t51_2 (
K (.bool true) H28) (
J [t1, t2, t3, (.bool false)] H28)) (
opP (idxPtr 2 1 t3 (.int .i64 1)) fun t35 =>
opW (loadOne t35 H28) fun t36 H37 =>
opP ((binC P .gtr 3 true).f t36 (.int .i64 20)) fun t37 =>
opP (pickA t33_2 (.bool true) t37) fun t38_3 =>
wIf t38_3 (
opP (pickA t38_3 (.bool true) undef) fun t43_3 =>
opP (pickA t43_3 (.bool true) undef) fun t47_3 =>
opP (pickA t47_3 (.bool true) undef) fun t51_3 =>
wIf t51_3 (
K (.bool true) H37) (
J [t1, t2, t3, (.bool false)] H37)) (
opW (lenSl t1 H37) fun t41 H44 =>
opP ((binC P .gtr 3 true).f t41 (.int .i64 8)) fun t42 =>
opP (pickA t38_3 (.bool true) t42) fun t43_4 =>
wIf t43_4 (
opP (pickA t43_4 (.bool true) undef) fun t47_4 =>
opP (pickA t47_4 (.bool true) undef) fun t51_4 =>
wIf t51_4 (
K (.bool true) H44) (
J [t1, t2, t3, (.bool false)] H44)) (
opP ((binC P .lss 3 true).f t2 (.int .i64 0)) fun t46 =>
opP (pickA t43_4 (.bool true) t46) fun t47_5 =>
wIf t47_5 (
opP (pickA t47_5 (.bool true) undef) fun t51_5 =>
wIf t51_5 (
K (.bool true) H44) (
J [t1, t2, t3, (.bool false)] H44)) (
opP ((binC P .gtr 3 true).f t2 (.int .i64 60)) fun t50 =>
opP (pickA t47_5 (.bool true) t50) fun t51_6 =>
wIf t51_6 (
K (.bool true) H44) (
J [t1, t2, t3, (.bool false)] H44)))))))) (fun l H55 =>
opW (loadAgg 2 (nth l 2) H55) fun t52 H57 =>
wCall P n_law11_open [t52] H57 fun t53 H59 =>
opP ((buildC P 37).f []) fun t56 =>
wCall P n_table_Open [t53, (.int .i64 0), (.int .i64 1), t56] H59 fun t57 H62 =>
opP (extA 0 t57) fun t58 =>
opP (extA 1 t57) fun t59 =>
opP ((buildC P 37).f []) fun t60 =>
wNew (zc P 37) H62 fun t10 H67 =>
opW (storeTo 75 t10 t60 H67) fun u H69 =>
wLoop P true 133 law11_TableFull_P0 64 [(nth l 0), (nth l 1), (nth l 2), (nth l 3), t53, t58, t10, (.int .i64 0)] H69 (fun id l_1 H71 =>
cond (Nat.beq id 0) (
K (.bool true) H71) (
False)) (fun l_1 H71 =>
K (nth l_1 0) H71)))
theorem law11_TableFull_eq (t0 t1 t2 : Value) (H : Heap) (K : Value → Heap → Prop) : vcF P n_law11_TableFull [t0, t1, t2] H K = law11_TableFull t0 t1 t2 H K := by kernel_rfl
theorem law11_TableFull_ok {t0 t1 t2 : Value} {H : Heap} {K : Value → Heap → Prop} (h : law11_TableFull t0 t1 t2 H K) : wCall P n_law11_TableFull [t0, t1, t2] H K := wCall_of_vcF rfl ((law11_TableFull_eq t0 t1 t2 H K).mpr h)
noncomputable abbrev law11_TableHolds_P0 : Code := loopAt P n_law11_TableHolds 0
noncomputable abbrev law11_TableHolds_P1 : Code := loopAt P n_law11_TableHolds 1
def law11_TableHolds_L0 (l : List Value) (H : Heap) (N : List Value → Heap → Prop) (Qx : Nat → List Value → Heap → Prop) (Qr : List Value → Heap → Prop) : Prop :=
opP ((binC P .lss 3 false).f (nth l 7) (nth l 6)) fun t56 =>
wIf t56 (
opP (idxSl 4 (nth l 5) (nth l 7)) fun t57 =>
opW (loadAgg 4 t57 H) fun t58 H3 =>
wNew (zc P 72) H3 fun t11 H5 =>
opW (storeTo 4 t11 t58 H5) fun u H7 =>
wJoin (fun J =>
opP (offPtr 2 t11) fun t59 =>
opW (loadOne t59 H7) fun t60 H11 =>
opW (lenSl t60 H11) fun t61 H13 =>
opP ((binC P .gtr 3 true).f t61 (.int .i64 20)) fun t62 =>
wIf t62 (
opP (pickA t62 (.bool true) undef) fun t68 =>
wIf t68 (
Qr [(.bool true)] H13) (
J [(nth l 0), (nth l 1), (nth l 2), (nth l 3), (nth l 4), t11, (nth l 5), (nth l 6), (nth l 7)] H13)) (
opP (offPtr 3 t11) fun t64 =>
opW (loadOne t64 H13) fun t65 H18 =>
opW (lenSl t65 H18) fun t66 H20 =>
opP ((binC P .gtr 3 true).f t66 (.int .i64 100)) fun t67 =>
opP (pickA t62 (.bool true) t67) fun t68_1 =>
wIf t68_1 (
Qr [(.bool true)] H20) (
J [(nth l 0), (nth l 1), (nth l 2), (nth l 3), (nth l 4), t11, (nth l 5), (nth l 6), (nth l 7)] H20))) (fun l_1 H24 =>
wJoin (fun J_1 =>
opP (offPtr 0 (nth l_1 5)) fun t69 =>
opW (loadOne t69 H24) fun t70 H28 =>
opP ((binC P .eql 3 true).f t70 (.int .i64 0)) fun t72 =>
wIf t72 (
opW (loadAgg 75 (nth l_1 3) H28) fun t74 H31 =>
opP (offPtr 2 (nth l_1 5)) fun t75 =>
opW (loadOne t75 H31) fun t76 H34 =>
wCall P n_table_Apply [t74, t76] H34 fun t77 H36 =>
opP (extA 0 t77) fun t78 =>
opP (extA 1 t77) fun t79 =>
wNew (zc P 37) H36 fun t12 H40 =>
opW (storeTo 75 t12 t78 H40) fun u_1 H42 =>
opP (offPtr 2 (nth l_1 5)) fun t81 =>
opW (loadOne t81 H42) fun t82 H45 =>
wCall P n_table_Store_Do [(nth l_1 2), t82] H45 fun t83 H47 =>
wJoin (fun J_2 =>
opP ((binC P .neq 24 true).f t79 (.int .i64 0)) fun t85 =>
opP ((binC P .eql 24 true).f t83 (.int .i64 111)) fun t87 =>
opP ((binC P .neq 4 false).f t85 t87) fun t88 =>
wIf t88 (
opP (pickA t88 (.bool true) undef) fun t100 =>
wIf t100 (
Qr [(.bool false)] H47) (
J_2 [(nth l_1 0), (nth l_1 1), (nth l_1 2), (nth l_1 3), (nth l_1 4), t12, t83, (nth l_1 6), (nth l_1 7), (nth l_1 8)] H47)) (
opP ((binC P .neq 24 true).f t83 (.int .i64 0)) fun t91 =>
wIf t91 (
opP ((binC P .neq 24 true).f t83 (.int .i64 111)) fun t94 =>
opP (pickA t91 t94 (.bool false)) fun t95 =>
wIf t95 (
opP ((binC P .neq 24 true).f t83 (.int .i64 62)) fun t98 =>
opP (pickA t95 t98 (.bool false)) fun t99 =>
opP (pickA t88 (.bool true) t99) fun t100_1 =>
wIf t100_1 (
Qr [(.bool false)] H47) (
J_2 [(nth l_1 0), (nth l_1 1), (nth l_1 2), (nth l_1 3), (nth l_1 4), t12, t83, (nth l_1 6), (nth l_1 7), (nth l_1 8)] H47)) (
opP (pickA t95 undef (.bool false)) fun t99_1 =>
opP (pickA t88 (.bool true) t99_1) fun t100_2 =>
wIf t100_2 (
Qr [(.bool false)] H47) (
J_2 [(nth l_1 0), (nth l_1 1), (nth l_1 2), (nth l_1 3), (nth l_1 4), t12, t83, (nth l_1 6), (nth l_1 7), (nth l_1 8)] H47))) (
opP (pickA t91 undef (.bool false)) fun t95_1 =>
opP (pickA t95_1 undef (.bool false)) fun t99_2 =>
opP (pickA t88 (.bool true) t99_2) fun t100_3 =>
wIf t100_3 (
Qr [(.bool false)] H47) (
J_2 [(nth l_1 0), (nth l_1 1), (nth l_1 2), (nth l_1 3), (nth l_1 4), t12, t83, (nth l_1 6), (nth l_1 7), (nth l_1 8)] H47)))) (fun l_2 H65 =>
wJoin (fun J_3 =>
opP ((binC P .eql 24 true).f (nth l_2 6) (.int .i64 0)) fun t102 =>
wIf t102 (
opW (loadAgg 75 (nth l_2 5) H65) fun t103 H69 =>
opW (storeTo 75 (nth l_2 3) t103 H69) fun u_2 H71 =>
J_3 [(nth l_2 0), (nth l_2 1), (nth l_2 2), (nth l_2 3), (nth l_2 4), (nth l_2 5), (nth l_2 6), (nth l_2 7), (nth l_2 8), (nth l_2 9)] H71) (
J_3 [(nth l_2 0), (nth l_2 1), (nth l_2 2), (nth l_2 3), (nth l_2 4), (nth l_2 5), (nth l_2 6), (nth l_2 7), (nth l_2 8), (nth l_2 9)] H65)) (fun l_3 H73 =>
opP ((binC P .eql 24 true).f (nth l_3 6) (.int .i64 62)) fun t105 =>
wIf t105 (
opW (loadAgg 75 (nth l_3 5) H73) fun t107 H76 =>
opW ((buildSliceC P 70 1).f [(0, t107)] H76) fun t108 H78 =>
opW (appendWith 75 152 (nth l_3 4) t108 H78) fun t109 H80 =>
J_1 [(nth l_3 0), (nth l_3 1), (nth l_3 2), (nth l_3 3), t109, (nth l_3 7), (nth l_3 8), (nth l_3 9)] H80) (
J_1 [(nth l_3 0), (nth l_3 1), (nth l_3 2), (nth l_3 3), (nth l_3 4), (nth l_3 7), (nth l_3 8), (nth l_3 9)] H73)))) (
opP ((binC P .eql 3 true).f t70 (.int .i64 2)) fun t111 =>
wIf t111 (
wCall P n_part_Map_Device [(nth l_1 1)] H28 fun t113 H83 =>
opP (offPtr 1 (nth l_1 5)) fun t114 =>
opW (loadOne t114 H83) fun t115 H86 =>
cSame (sameB H28 H83) (idsOf [t114]) ∧ (wCall P n_flash_Device_Budget [t113, t115] H86 fun t116 H88 =>
J_1 [(nth l_1 0), (nth l_1 1), (nth l_1 2), (nth l_1 3), (nth l_1 4), (nth l_1 6), (nth l_1 7), (nth l_1 8)] H88)) (
opP ((binC P .eql 3 true).f t70 (.int .i64 3)) fun t118 =>
wIf t118 (
wCall P n_part_Map_Device [(nth l_1 1)] H28 fun t120 H91 =>
opP (offPtr 3 (nth l_1 5)) fun t121 =>
opW (loadOne t121 H91) fun t122 H94 =>
cSame (sameB H28 H91) (idsOf [t121]) ∧ (wCall P n_flash_Device_Restart [t120, t122] H94 fun t123 H96 =>
opP ((buildC P 37).f []) fun t126 =>
wCall P n_table_Open [(nth l_1 1), (.int .i64 0), (.int .i64 1), t126] H96 fun t127 H99 =>
opP (extA 0 t127) fun t128 =>
opP (extA 1 t127) fun t129 =>
opP ((binC P .eql 23 true).f t128 (.pointer none)) fun t131 =>
wIf t131 (
Qr [(.bool false)] H99) (
wCall P n_table_Store_Table [t128] H99 fun t133 H104 =>
opW (loadAgg 75 (nth l_1 3) H104) fun t134 H106 =>
cSame (sameB H99 H104) (idsOf [(nth l_1 3)]) ∧ (opP ((binC P .eql 37 false).f t133 t134) fun t135 =>
opW (lenSl (nth l_1 4) H106) fun t137 H109 =>
wLoop P true 159 law11_TableHolds_P1 63050394783220592 [(nth l_1 0), (nth l_1 1), t128, (nth l_1 3), (nth l_1 4), t135, (nth l_1 6), (nth l_1 7), (nth l_1 8), (nth l_1 4), t137, (.int .i64 0)] H109 (fun id l_4 H111 =>
cond (Nat.beq id 3) (
opP (unA .not (nth l_4 5)) fun t151 =>
wIf t151 (
Qr [(.bool false)] H111) (
wCall P n_table_Store_Table [(nth l_4 2)] H111 fun t153 H114 =>
opW (storeTo 75 (nth l_4 3) t153 H114) fun u_3 H116 =>
J_1 [(nth l_4 0), (nth l_4 1), (nth l_4 2), (nth l_4 3), (.slice none 0 0), (nth l_4 6), (nth l_4 7), (nth l_4 8)] H116)) (
cond (Nat.beq id 2) (
J_1 [(nth l_4 0), (nth l_4 1), (nth l_4 2), (nth l_4 3), (nth l_4 4), (nth l_4 6), (nth l_4 7), (nth l_4 8)] H111) (
cond (Nat.beq id 1) (
opP ((binC P .add 3 true).f (nth l_4 8) (.int .i64 1)) fun t158 =>
N [(nth l_4 0), (nth l_4 1), (nth l_4 2), (nth l_4 3), (nth l_4 4), (nth l_4 6), (nth l_4 7), t158] H111) (
Qx id [(nth l_4 0)] H111)))) (fun l_4 H111 =>
Qr [(nth l_4 0)] H111))))) (
J_1 [(nth l_1 0), (nth l_1 1), (nth l_1 2), (nth l_1 3), (nth l_1 4), (nth l_1 6), (nth l_1 7), (nth l_1 8)] H28)))) (fun l_5 H119 =>
wCall P n_table_Store_Table [(nth l_5 2)] H119 fun t155 H121 =>
opW (loadAgg 75 (nth l_5 3) H121) fun t156 H123 =>
cSame (sameB H119 H121) (idsOf [(nth l_5 3)]) ∧ (opP ((binC P .neq 37 false).f t155 t156) fun t157 =>
wIf t157 (
Qr [(.bool false)] H123) (
opP ((binC P .add 3 true).f (nth l_5 7) (.int .i64 1)) fun t158_1 =>
N [(nth l_5 0), (nth l_5 1), (nth l_5 2), (nth l_5 3), (nth l_5 4), (nth l_5 5), (nth l_5 6), t158_1] H123))))) (
Qx 0 [(nth l 0)] H)
theorem law11_TableHolds_L0_eq (l : List Value) (H : Heap) (N : List Value → Heap → Prop) (Qx : Nat → List Value → Heap → Prop) (Qr : List Value → Heap → Prop) : vcC P true 159 law11_TableHolds_P0 (live law11_TableHolds_P0 0 16) 16 (envOf (bits 159 (live law11_TableHolds_P0 0 16)) l) H (loopQ 159 law11_TableHolds_P0 16 N Qx Qr) = law11_TableHolds_L0 l H N Qx Qr := by kernel_rfl
theorem law11_TableHolds_L0_ind (I : Nat → List Value → Heap → Prop) (Qx : Nat → List Value → Heap → Prop) (Qr : List Value → Heap → Prop) (hs : ∀ k l H, I k l H → law11_TableHolds_L0 l H (fun l H => ∃ k', k' < k ∧ I k' l H) Qx Qr) (k : Nat) (l : List Value) (H : Heap) (h : I k l H) : wLoop P true 159 law11_TableHolds_P0 16 l H Qx Qr :=
  loop_ind (by kernel_rfl) I (fun k l H h => (law11_TableHolds_L0_eq l H _ Qx Qr).mpr (hs k l H h)) k l H h
def law11_TableHolds_L1 (l : List Value) (H : Heap) (N : List Value → Heap → Prop) (Qx : Nat → List Value → Heap → Prop) (Qr : List Value → Heap → Prop) : Prop :=
opP ((binC P .lss 3 false).f (nth l 11) (nth l 10)) fun t139 =>
wIf t139 (
opP (idxSl 75 (nth l 9) (nth l 11)) fun t140 =>
opW (loadAgg 75 t140 H) fun t141 H3 =>
wNew (zc P 37) H3 fun t17 H5 =>
opW (storeTo 75 t17 t141 H5) fun u H7 =>
wIf (nth l 5) (
opP (pickA (nth l 5) (.bool true) undef) fun t148 =>
opP ((binC P .add 3 true).f (nth l 11) (.int .i64 1)) fun t149 =>
N [(nth l 0), (nth l 1), (nth l 2), (nth l 3), (nth l 4), t148, (nth l 6), (nth l 7), (nth l 8), (nth l 9), (nth l 10), t149] H7) (
wCall P n_table_Store_Table [(nth l 2)] H7 fun t145 H11 =>
opW (loadAgg 75 t17 H11) fun t146 H13 =>
cSame (sameB H7 H11) (idsOf [t17]) ∧ (opP ((binC P .eql 37 false).f t145 t146) fun t147 =>
opP (pickA (nth l 5) (.bool true) t147) fun t148_1 =>
opP ((binC P .add 3 true).f (nth l 11) (.int .i64 1)) fun t149_1 =>
N [(nth l 0), (nth l 1), (nth l 2), (nth l 3), (nth l 4), t148_1, (nth l 6), (nth l 7), (nth l 8), (nth l 9), (nth l 10), t149_1] H13))) (
Qx 3 [(nth l 0), (nth l 1), (nth l 2), (nth l 3), (nth l 4), (nth l 5), (nth l 6), (nth l 7), (nth l 8)] H)
theorem law11_TableHolds_L1_eq (l : List Value) (H : Heap) (N : List Value → Heap → Prop) (Qx : Nat → List Value → Heap → Prop) (Qr : List Value → Heap → Prop) : vcC P true 159 law11_TableHolds_P1 (live law11_TableHolds_P1 0 63050394783220592) 63050394783220592 (envOf (bits 159 (live law11_TableHolds_P1 0 63050394783220592)) l) H (loopQ 159 law11_TableHolds_P1 63050394783220592 N Qx Qr) = law11_TableHolds_L1 l H N Qx Qr := by kernel_rfl
theorem law11_TableHolds_L1_ind (I : Nat → List Value → Heap → Prop) (Qx : Nat → List Value → Heap → Prop) (Qr : List Value → Heap → Prop) (hs : ∀ k l H, I k l H → law11_TableHolds_L1 l H (fun l H => ∃ k', k' < k ∧ I k' l H) Qx Qr) (k : Nat) (l : List Value) (H : Heap) (h : I k l H) : wLoop P true 159 law11_TableHolds_P1 63050394783220592 l H Qx Qr :=
  loop_ind (by kernel_rfl) I (fun k l H h => (law11_TableHolds_L1_eq l H _ Qx Qr).mpr (hs k l H h)) k l H h
def law11_TableHolds (t0 t1 : Value) (H : Heap) (K : Value → Heap → Prop) : Prop :=
wNew (cellsL t0) H fun t2 H1 =>
wCall P n_law11_tableAlive [] H1 fun t18 H3 =>
opP (unA .not t18) fun t19 =>
wIf t19 (
K (.bool false) H3) (
wJoin (fun J =>
opP (idxPtr 2 1 t2 (.int .i64 0)) fun t20 =>
opW (loadOne t20 H3) fun t21 H8 =>
opP ((binC P .lss 3 true).f t21 (.int .i64 2)) fun t22 =>
wIf t22 (
opP (pickA t22 (.bool true) undef) fun t27 =>
opP (pickA t27 (.bool true) undef) fun t32 =>
opP (pickA t32 (.bool true) undef) fun t37 =>
opP (pickA t37 (.bool true) undef) fun t42 =>
wIf t42 (
K (.bool true) H8) (
J [t1, t2, (.bool false)] H8)) (
opP (idxPtr 2 1 t2 (.int .i64 1)) fun t24 =>
opW (loadOne t24 H8) fun t25 H16 =>
opP ((binC P .lss 3 true).f t25 (.int .i64 2)) fun t26 =>
opP (pickA t22 (.bool true) t26) fun t27_1 =>
wIf t27_1 (
opP (pickA t27_1 (.bool true) undef) fun t32_1 =>
opP (pickA t32_1 (.bool true) undef) fun t37_1 =>
opP (pickA t37_1 (.bool true) undef) fun t42_1 =>
wIf t42_1 (
K (.bool true) H16) (
J [t1, t2, (.bool false)] H16)) (
opP (idxPtr 2 1 t2 (.int .i64 0)) fun t29 =>
opW (loadOne t29 H16) fun t30 H24 =>
opP ((binC P .gtr 3 true).f t30 (.int .i64 20)) fun t31 =>
opP (pickA t27_1 (.bool true) t31) fun t32_2 =>
wIf t32_2 (
opP (pickA t32_2 (.bool true) undef) fun t37_2 =>
opP (pickA t37_2 (.bool true) undef) fun t42_2 =>
wIf t42_2 (
K (.bool true) H24) (
J [t1, t2, (.bool false)] H24)) (
opP (idxPtr 2 1 t2 (.int .i64 1)) fun t34 =>
opW (loadOne t34 H24) fun t35 H31 =>
opP ((binC P .gtr 3 true).f t35 (.int .i64 20)) fun t36 =>
opP (pickA t32_2 (.bool true) t36) fun t37_3 =>
wIf t37_3 (
opP (pickA t37_3 (.bool true) undef) fun t42_3 =>
wIf t42_3 (
K (.bool true) H31) (
J [t1, t2, (.bool false)] H31)) (
opW (lenSl t1 H31) fun t40 H36 =>
opP ((binC P .gtr 3 true).f t40 (.int .i64 50)) fun t41 =>
opP (pickA t37_3 (.bool true) t41) fun t42_4 =>
wIf t42_4 (
K (.bool true) H36) (
J [t1, t2, (.bool false)] H36)))))) (fun l H40 =>
opW (loadAgg 2 (nth l 1) H40) fun t43 H42 =>
wCall P n_law11_open [t43] H42 fun t44 H44 =>
opP ((buildC P 37).f []) fun t47 =>
wCall P n_table_Open [t44, (.int .i64 0), (.int .i64 1), t47] H44 fun t48 H47 =>
opP (extA 0 t48) fun t49 =>
opP (extA 1 t48) fun t50 =>
opP ((buildC P 37).f []) fun t51 =>
wNew (zc P 37) H47 fun t8 H52 =>
opW (storeTo 75 t8 t51 H52) fun u H54 =>
opW ((buildSliceC P 70 0).f [] H54) fun t52 H56 =>
opW (lenSl (nth l 0) H56) fun t54 H58 =>
wLoop P true 159 law11_TableHolds_P0 16 [(nth l 2), t44, t49, t8, t52, (nth l 0), t54, (.int .i64 0)] H58 (fun id l_1 H60 =>
cond (Nat.beq id 0) (
K (.bool true) H60) (
False)) (fun l_1 H60 =>
K (nth l_1 0) H60)))
theorem law11_TableHolds_eq (t0 t1 : Value) (H : Heap) (K : Value → Heap → Prop) : vcF P n_law11_TableHolds [t0, t1] H K = law11_TableHolds t0 t1 H K := by kernel_rfl
theorem law11_TableHolds_ok {t0 t1 : Value} {H : Heap} {K : Value → Heap → Prop} (h : law11_TableHolds t0 t1 H K) : wCall P n_law11_TableHolds [t0, t1] H K := wCall_of_vcF rfl ((law11_TableHolds_eq t0 t1 H K).mpr h)
def table_Open (t0 t1 t2 t3 : Value) (H : Heap) (K : Value → Heap → Prop) : Prop :=
wNew (cellsL t3) H fun t7 H1 =>
opW (loadAgg 75 t7 H1) fun t12 H3 =>
wCall P n_table_Right [t12] H3 fun t13 H5 =>
opP (unA .not t13) fun t14 =>
wIf t14 (
K (.tuple [(.pointer none), (.int .i64 111)].toArray) H5) (
wCall P n_journal_Open [t0, t1, t2] H5 fun t19 H8 =>
opP (extA 0 t19) fun t20 =>
opP (extA 1 t19) fun t21 =>
opW (loadAgg 75 t7 H8) fun t24 H12 =>
wCall P n_table_replay [t21, t24] H12 fun t25 H14 =>
opP ((buildC P 80).f [(0, t20), (1, t25)]) fun t26 =>
wNew (cellsL t26) H14 fun t27 H17 =>
K (.tuple [t27, (.int .i64 0)].toArray) H17)
theorem table_Open_eq (t0 t1 t2 t3 : Value) (H : Heap) (K : Value → Heap → Prop) : vcF P n_table_Open [t0, t1, t2, t3] H K = table_Open t0 t1 t2 t3 H K := by kernel_rfl
theorem table_Open_ok {t0 t1 t2 t3 : Value} {H : Heap} {K : Value → Heap → Prop} (h : table_Open t0 t1 t2 t3 H K) : wCall P n_table_Open [t0, t1, t2, t3] H K := wCall_of_vcF rfl ((table_Open_eq t0 t1 t2 t3 H K).mpr h)
def law11_open (t0 : Value) (H : Heap) (K : Value → Heap → Prop) : Prop :=
wNew (cellsL t0) H fun t1 H1 =>
wCall P n_flash_New [(.int .i64 60), (.int .i64 10000)] H1 fun t6 H3 =>
opP (idxPtr 2 1 t1 (.int .i64 0)) fun t7 =>
opW (loadOne t7 H3) fun t8 H6 =>
cSame (sameB H1 H3) (idsOf [t7]) ∧ (opP (idxPtr 2 1 t1 (.int .i64 1)) fun t9 =>
opW (loadOne t9 H6) fun t10 H9 =>
cSame (sameB H1 H3) (idsOf [t9]) ∧ (opW ((buildSliceC P 126 2).f [(0, t8), (1, t10)] H9) fun t11 H11 =>
wCall P n_part_New [t6, t11] H11 fun t12 H13 =>
opP (extA 0 t12) fun t13 =>
opP (extA 1 t12) fun t14 =>
K t13 H13))
theorem law11_open_eq (t0 : Value) (H : Heap) (K : Value → Heap → Prop) : vcF P n_law11_open [t0] H K = law11_open t0 H K := by kernel_rfl
theorem law11_open_ok {t0 : Value} {H : Heap} {K : Value → Heap → Prop} (h : law11_open t0 H K) : wCall P n_law11_open [t0] H K := wCall_of_vcF rfl ((law11_open_eq t0 H K).mpr h)
noncomputable abbrev table_Apply_P0 : Code := loopAt P n_table_Apply 0
def table_Apply_L0 (l : List Value) (H : Heap) (N : List Value → Heap → Prop) (Qx : Nat → List Value → Heap → Prop) (Qr : List Value → Heap → Prop) : Prop :=
opP ((binC P .lss 3 false).f (nth l 5) (nth l 4)) fun t20 =>
wIf t20 (
opP (idxSl 40 (nth l 3) (nth l 5)) fun t21 =>
opW (loadAgg 40 t21 H) fun t22 H3 =>
wNew (zc P 41) H3 fun t7 H5 =>
opW (storeTo 40 t7 t22 H5) fun u H7 =>
opP (offPtr 0 t7) fun t23 =>
opW (loadOne t23 H7) fun t24 H10 =>
opP ((binC P .eql 3 true).f t24 (.int .i64 1)) fun t26 =>
wIf t26 (
opP (offPtr 1 t7) fun t27 =>
opW (loadOne t27 H10) fun t28 H14 =>
opP (offPtr 3 t7) fun t29 =>
opW (loadAgg 36 t29 H14) fun t30 H17 =>
opP (offPtr 0 (nth l 0)) fun t31 =>
opP (idxPtr 2 36 t31 t28) fun t32 =>
opW (storeTo 36 t32 t30 H17) fun u_1 H21 =>
opP ((binC P .add 3 true).f (nth l 5) (.int .i64 1)) fun t54 =>
N [(nth l 0), (nth l 1), (nth l 2), (nth l 3), (nth l 4), t54] H21) (
opP ((binC P .eql 3 true).f t24 (.int .i64 2)) fun t34 =>
wIf t34 (
opP (offPtr 2 t7) fun t35 =>
opW (loadOne t35 H10) fun t36 H26 =>
opP (offPtr 72 (nth l 0)) fun t37 =>
opW (storeTo 1 t37 t36 H26) fun u_2 H29 =>
opP ((binC P .add 3 true).f (nth l 5) (.int .i64 1)) fun t54_1 =>
N [(nth l 0), (nth l 1), (nth l 2), (nth l 3), (nth l 4), t54_1] H29) (
opP ((binC P .eql 3 true).f t24 (.int .i64 3)) fun t39 =>
wIf t39 (
opP (offPtr 2 t7) fun t40 =>
opW (loadOne t40 H10) fun t41 H34 =>
opP (offPtr 73 (nth l 0)) fun t42 =>
opW (storeTo 1 t42 t41 H34) fun u_3 H37 =>
opP ((binC P .add 3 true).f (nth l 5) (.int .i64 1)) fun t54_2 =>
N [(nth l 0), (nth l 1), (nth l 2), (nth l 3), (nth l 4), t54_2] H37) (
opP ((binC P .eql 3 true).f t24 (.int .i64 4)) fun t44 =>
wIf t44 (
opP (offPtr 39 t7) fun t45 =>
opW (loadOne t45 H10) fun t46 H42 =>
opP (offPtr 74 (nth l 0)) fun t47 =>
opW (loadOne t47 H42) fun t48 H45 =>
opP ((binC P .lss 30 false).f t46 t48) fun t49 =>
wIf t49 (
opP ((buildC P 37).f []) fun t50 =>
opW (storeTo 75 (nth l 1) t50 H45) fun u_4 H49 =>
Qr [(nth l 0), (nth l 1), (.int .i64 111)] H49) (
opP (offPtr 39 t7) fun t51 =>
opW (loadOne t51 H45) fun t52 H52 =>
opP (offPtr 74 (nth l 0)) fun t53 =>
opW (storeTo 1 t53 t52 H52) fun u_5 H55 =>
opP ((binC P .add 3 true).f (nth l 5) (.int .i64 1)) fun t54_3 =>
N [(nth l 0), (nth l 1), (nth l 2), (nth l 3), (nth l 4), t54_3] H55)) (
opP ((binC P .add 3 true).f (nth l 5) (.int .i64 1)) fun t54_4 =>
N [(nth l 0), (nth l 1), (nth l 2), (nth l 3), (nth l 4), t54_4] H10))))) (
Qx 0 [(nth l 0), (nth l 1), (nth l 2)] H)
theorem table_Apply_L0_eq (l : List Value) (H : Heap) (N : List Value → Heap → Prop) (Qx : Nat → List Value → Heap → Prop) (Qr : List Value → Heap → Prop) : vcC P true 56 table_Apply_P0 (live table_Apply_P0 0 52) 52 (envOf (bits 56 (live table_Apply_P0 0 52)) l) H (loopQ 56 table_Apply_P0 52 N Qx Qr) = table_Apply_L0 l H N Qx Qr := by kernel_rfl
theorem table_Apply_L0_ind (I : Nat → List Value → Heap → Prop) (Qx : Nat → List Value → Heap → Prop) (Qr : List Value → Heap → Prop) (hs : ∀ k l H, I k l H → table_Apply_L0 l H (fun l H => ∃ k', k' < k ∧ I k' l H) Qx Qr) (k : Nat) (l : List Value) (H : Heap) (h : I k l H) : wLoop P true 56 table_Apply_P0 52 l H Qx Qr :=
  loop_ind (by kernel_rfl) I (fun k l H h => (table_Apply_L0_eq l H _ Qx Qr).mpr (hs k l H h)) k l H h
def table_Apply (t0 t1 : Value) (H : Heap) (K : Value → Heap → Prop) : Prop :=
wNew (cellsL t0) H fun t2 H1 =>
wNew (zc P 37) H1 fun t4 H3 =>
wJoin (fun J =>
opW (loadAgg 75 t2 H3) fun t8 H6 =>
wCall P n_table_Right [t8] H6 fun t9 H8 =>
opP (unA .not t9) fun t10 =>
wIf t10 (
opP (pickA t10 (.bool true) undef) fun t15 =>
J [t1, t2, t4, (.int .i64 0), t15] H8) (
wCall P n_table_transaction [t1] H8 fun t13 H12 =>
opP (unA .not t13) fun t14 =>
opP (pickA t10 (.bool true) t14) fun t15_1 =>
J [t1, t2, t4, (.int .i64 0), t15_1] H12)) (fun l H16 =>
wIf (nth l 4) (
opP ((buildC P 37).f []) fun t16 =>
opW (storeTo 75 (nth l 2) t16 H16) fun u H19 =>
opW (loadAgg 75 (nth l 2) H19) fun r _ =>
K (.tuple [r, (.int .i64 111)].toArray) H19) (
opW (lenSl (nth l 0) H16) fun t18 H22 =>
wLoop P true 56 table_Apply_P0 52 [(nth l 1), (nth l 2), (nth l 3), (nth l 0), t18, (.int .i64 0)] H22 (fun id l_1 H24 =>
cond (Nat.beq id 0) (
opW (loadAgg 75 (nth l_1 0) H24) fun t55 H26 =>
opW (storeTo 75 (nth l_1 1) t55 H26) fun u_1 H28 =>
opW (loadAgg 75 (nth l_1 1) H28) fun r_1 _ =>
K (.tuple [r_1, (.int .i64 0)].toArray) H28) (
False)) (fun l_1 H24 =>
opW (loadAgg 75 (nth l_1 1) H24) fun r_2 _ =>
K (.tuple [r_2, (nth l_1 2)].toArray) H24)))
theorem table_Apply_eq (t0 t1 : Value) (H : Heap) (K : Value → Heap → Prop) : vcF P n_table_Apply [t0, t1] H K = table_Apply t0 t1 H K := by kernel_rfl
theorem table_Apply_ok {t0 t1 : Value} {H : Heap} {K : Value → Heap → Prop} (h : table_Apply t0 t1 H K) : wCall P n_table_Apply [t0, t1] H K := wCall_of_vcF rfl ((table_Apply_eq t0 t1 H K).mpr h)
noncomputable abbrev table_Parse_P0 : Code := loopAt P n_table_Parse 0
def table_Parse_L0 (l : List Value) (H : Heap) (N : List Value → Heap → Prop) (Qx : Nat → List Value → Heap → Prop) (Qr : List Value → Heap → Prop) : Prop :=
opP ((binC P .lss 3 true).f (nth l 4) (.int .i64 2)) fun t12 =>
wIf t12 (
wCall P n_slot_Read [(nth l 2)] H fun t16 H2 =>
opP (extA 0 t16) fun t17 =>
opP (extA 1 t16) fun t18 =>
wNew (zc P 34) H2 fun t7 H6 =>
opW (storeTo 36 t7 t17 H6) fun u H8 =>
opP ((binC P .neq 24 true).f t18 (.int .i64 0)) fun t20 =>
wIf t20 (
opP ((buildC P 37).f []) fun t21 =>
opW (storeTo 75 (nth l 0) t21 H8) fun u_1 H12 =>
Qr [(nth l 0), (.int .i64 111), (nth l 2), (nth l 3)] H12) (
opW (loadAgg 36 t7 H8) fun t23 H14 =>
opP (offPtr 0 (nth l 3)) fun t24 =>
opP (idxPtr 2 36 t24 (nth l 4)) fun t25 =>
opW (storeTo 36 t25 t23 H14) fun u_2 H18 =>
opP ((binC P .add 3 true).f (nth l 4) (.int .i64 1)) fun t26 =>
N [(nth l 0), (nth l 1), (nth l 2), (nth l 3), t26] H18)) (
Qx 0 [(nth l 0), (nth l 1), (nth l 2), (nth l 3)] H)
theorem table_Parse_L0_eq (l : List Value) (H : Heap) (N : List Value → Heap → Prop) (Qx : Nat → List Value → Heap → Prop) (Qr : List Value → Heap → Prop) : vcC P true 49 table_Parse_P0 (live table_Parse_P0 0 60) 60 (envOf (bits 49 (live table_Parse_P0 0 60)) l) H (loopQ 49 table_Parse_P0 60 N Qx Qr) = table_Parse_L0 l H N Qx Qr := by kernel_rfl
theorem table_Parse_L0_ind (I : Nat → List Value → Heap → Prop) (Qx : Nat → List Value → Heap → Prop) (Qr : List Value → Heap → Prop) (hs : ∀ k l H, I k l H → table_Parse_L0 l H (fun l H => ∃ k', k' < k ∧ I k' l H) Qx Qr) (k : Nat) (l : List Value) (H : Heap) (h : I k l H) : wLoop P true 49 table_Parse_P0 60 l H Qx Qr :=
  loop_ind (by kernel_rfl) I (fun k l H h => (table_Parse_L0_eq l H _ Qx Qr).mpr (hs k l H h)) k l H h
def table_Parse (t0 : Value) (H : Heap) (K : Value → Heap → Prop) : Prop :=
wNew (zc P 37) H fun t2 H1 =>
wCall P n_code_New [t0] H1 fun t10 H3 =>
wNew (zc P 37) H3 fun t5 H5 =>
wLoop P true 49 table_Parse_P0 60 [t2, (.int .i64 0), t10, t5, (.int .i64 0)] H5 (fun id l H7 =>
cond (Nat.beq id 0) (
wCall P n_code_Reader_Fixed [(nth l 2), (.int .i64 1)] H7 fun t28 H9 =>
opW (cvInt .i64 t28 H9) fun t29 H11 =>
wCall P n_code_Reader_Fixed [(nth l 2), (.int .i64 1)] H11 fun t31 H13 =>
opW (cvInt .i64 t31 H13) fun t32 H15 =>
opP ((binC P .add 3 true).f t32 (.int .i64 (-1))) fun t33 =>
opP (offPtr 72 (nth l 3)) fun t34 =>
opW (storeTo 1 t34 t29 H15) fun u H19 =>
opP (offPtr 73 (nth l 3)) fun t35 =>
opW (storeTo 1 t35 t33 H19) fun u_1 H22 =>
wCall P n_code_Reader_Fixed [(nth l 2), (.int .i64 8)] H22 fun t37 H24 =>
opP (offPtr 74 (nth l 3)) fun t38 =>
opW (storeTo 1 t38 t37 H24) fun u_2 H27 =>
wJoin (fun J =>
wCall P n_code_Reader_End [(nth l 2)] H27 fun t40 H30 =>
opP ((binC P .neq 24 true).f t40 (.int .i64 0)) fun t41 =>
wIf t41 (
opP (pickA t41 (.bool true) undef) fun t46 =>
J [(nth l 0), (nth l 3), t46] H30) (
opW (loadAgg 75 (nth l 3) H30) fun t43 H34 =>
wCall P n_table_Right [t43] H34 fun t44 H36 =>
opP (unA .not t44) fun t45 =>
opP (pickA t41 (.bool true) t45) fun t46_1 =>
J [(nth l 0), (nth l 3), t46_1] H36)) (fun l_1 H40 =>
wIf (nth l_1 2) (
opP ((buildC P 37).f []) fun t47 =>
opW (storeTo 75 (nth l_1 0) t47 H40) fun u_3 H43 =>
opW (loadAgg 75 (nth l_1 0) H43) fun r _ =>
K (.tuple [r, (.int .i64 111)].toArray) H43) (
opW (loadAgg 75 (nth l_1 1) H40) fun t48 H46 =>
opW (storeTo 75 (nth l_1 0) t48 H46) fun u_4 H48 =>
opW (loadAgg 75 (nth l_1 0) H48) fun r_1 _ =>
K (.tuple [r_1, (.int .i64 0)].toArray) H48))) (
False)) (fun l H7 =>
opW (loadAgg 75 (nth l 0) H7) fun r_2 _ =>
K (.tuple [r_2, (nth l 1)].toArray) H7)
theorem table_Parse_eq (t0 : Value) (H : Heap) (K : Value → Heap → Prop) : vcF P n_table_Parse [t0] H K = table_Parse t0 H K := by kernel_rfl
theorem table_Parse_ok {t0 : Value} {H : Heap} {K : Value → Heap → Prop} (h : table_Parse t0 H K) : wCall P n_table_Parse [t0] H K := wCall_of_vcF rfl ((table_Parse_eq t0 H K).mpr h)
noncomputable abbrev table_Get_P0 : Code := loopAt P n_table_Get 0
def table_Get_L0 (l : List Value) (H : Heap) (N : List Value → Heap → Prop) (Qx : Nat → List Value → Heap → Prop) (Qr : List Value → Heap → Prop) : Prop :=
opP ((binC P .lss 3 false).f (nth l 5) (nth l 4)) fun t18 =>
wIf t18 (
wCall P n_table_change [(nth l 2)] H fun t21 H2 =>
opP (extA 0 t21) fun t22 =>
opP (extA 1 t21) fun t23 =>
wNew (zc P 41) H2 fun t7 H6 =>
opW (storeTo 40 t7 t22 H6) fun u H8 =>
opP ((binC P .neq 24 true).f t23 (.int .i64 0)) fun t25 =>
wIf t25 (
Qr [(.slice none 0 0), t23, (nth l 2), (nth l 3)] H8) (
opW (loadAgg 40 t7 H8) fun t28 H11 =>
opW ((buildSliceC P 43 1).f [(0, t28)] H11) fun t29 H13 =>
opW (appendWith 40 96 (nth l 3) t29 H13) fun t30 H15 =>
opP ((binC P .add 3 true).f (nth l 5) (.int .i64 1)) fun t31 =>
N [(nth l 0), (nth l 1), (nth l 2), t30, (nth l 4), t31] H15)) (
Qx 0 [(nth l 0), (nth l 1), (nth l 2), (nth l 3)] H)
theorem table_Get_L0_eq (l : List Value) (H : Heap) (N : List Value → Heap → Prop) (Qx : Nat → List Value → Heap → Prop) (Qr : List Value → Heap → Prop) : vcC P true 36 table_Get_P0 (live table_Get_P0 0 92) 92 (envOf (bits 36 (live table_Get_P0 0 92)) l) H (loopQ 36 table_Get_P0 92 N Qx Qr) = table_Get_L0 l H N Qx Qr := by kernel_rfl
theorem table_Get_L0_ind (I : Nat → List Value → Heap → Prop) (Qx : Nat → List Value → Heap → Prop) (Qr : List Value → Heap → Prop) (hs : ∀ k l H, I k l H → table_Get_L0 l H (fun l H => ∃ k', k' < k ∧ I k' l H) Qx Qr) (k : Nat) (l : List Value) (H : Heap) (h : I k l H) : wLoop P true 36 table_Get_P0 92 l H Qx Qr :=
  loop_ind (by kernel_rfl) I (fun k l H h => (table_Get_L0_eq l H _ Qx Qr).mpr (hs k l H h)) k l H h
def table_Get (t0 : Value) (H : Heap) (K : Value → Heap → Prop) : Prop :=
wCall P n_code_New [t0] H fun t10 H1 =>
wCall P n_code_Reader_Fixed [t10, (.int .i64 1)] H1 fun t12 H3 =>
opW (cvInt .i64 t12 H3) fun t13 H5 =>
opP ((binC P .gtr 3 true).f t13 (.int .i64 8)) fun t15 =>
wIf t15 (
K (.tuple [(.slice none 0 0), (.int .i64 111)].toArray) H5) (
wLoop P true 36 table_Get_P0 92 [(.slice none 0 0), (.int .i64 0), t10, (.slice none 0 0), t13, (.int .i64 0)] H5 (fun id l H8 =>
cond (Nat.beq id 0) (
wCall P n_code_Reader_End [(nth l 2)] H8 fun t33 H10 =>
opP ((binC P .neq 24 true).f t33 (.int .i64 0)) fun t34 =>
wIf t34 (
K (.tuple [(.slice none 0 0), (.int .i64 111)].toArray) H10) (
K (.tuple [(nth l 3), (.int .i64 0)].toArray) H10)) (
False)) (fun l H8 =>
K (.tuple [(nth l 0), (nth l 1)].toArray) H8))
theorem table_Get_eq (t0 : Value) (H : Heap) (K : Value → Heap → Prop) : vcF P n_table_Get [t0] H K = table_Get t0 H K := by kernel_rfl
theorem table_Get_ok {t0 : Value} {H : Heap} {K : Value → Heap → Prop} (h : table_Get t0 H K) : wCall P n_table_Get [t0] H K := wCall_of_vcF rfl ((table_Get_eq t0 H K).mpr h)
def table_Bytes (t0 : Value) (H : Heap) (K : Value → Heap → Prop) : Prop :=
wNew (cellsL t0) H fun t1 H1 =>
opW (loadAgg 75 t1 H1) fun t4 H3 =>
wCall P n_table_Right [t4] H3 fun t5 H5 =>
opP (unA .not t5) fun t6 =>
wIf t6 (
K (.slice none 0 0) H5) (
opP (offPtr 0 t1) fun t7 =>
opP (idxPtr 2 36 t7 (.int .i64 0)) fun t8 =>
opW (loadAgg 36 t8 H5) fun t9 H10 =>
wCall P n_slot_Bytes [t9] H10 fun t10 H12 =>
opP (offPtr 0 t1) fun t11 =>
opP (idxPtr 2 36 t11 (.int .i64 1)) fun t12 =>
opW (loadAgg 36 t12 H12) fun t13 H16 =>
cSame (sameB H10 H12) (idsOf [t12]) ∧ (wCall P n_slot_Bytes [t13] H16 fun t14 H18 =>
opW ((buildSliceC P 65 1).f [(0, t14)] H18) fun t15 H20 =>
wCall P n_code_Raw [t10, t15] H20 fun t16 H22 =>
opP (offPtr 72 t1) fun t18 =>
opW (loadOne t18 H22) fun t19 H25 =>
opW (cvInt .u64 t19 H25) fun t20 H27 =>
wCall P n_code_Fixed [t16, t20, (.int .i64 1)] H27 fun t21 H29 =>
opP (offPtr 73 t1) fun t22 =>
opW (loadOne t22 H29) fun t23 H32 =>
cSame (sameB H27 H29) (idsOf [t22]) ∧ (opP ((binC P .sub 3 true).f t23 (.int .i64 (-1))) fun t24 =>
opW (cvInt .u64 t24 H32) fun t25 H35 =>
wCall P n_code_Fixed [t21, t25, (.int .i64 1)] H35 fun t26 H37 =>
opP (offPtr 74 t1) fun t28 =>
opW (loadOne t28 H37) fun t29 H40 =>
wCall P n_code_Fixed [t26, t29, (.int .i64 8)] H40 fun t30 H42 =>
K t30 H42)))
theorem table_Bytes_eq (t0 : Value) (H : Heap) (K : Value → Heap → Prop) : vcF P n_table_Bytes [t0] H K = table_Bytes t0 H K := by kernel_rfl
theorem table_Bytes_ok {t0 : Value} {H : Heap} {K : Value → Heap → Prop} (h : table_Bytes t0 H K) : wCall P n_table_Bytes [t0] H K := wCall_of_vcF rfl ((table_Bytes_eq t0 H K).mpr h)
def table_Right (t0 : Value) (H : Heap) (K : Value → Heap → Prop) : Prop :=
wNew (cellsL t0) H fun t1 H1 =>
opP (offPtr 0 t1) fun t3 =>
opP (idxPtr 2 36 t3 (.int .i64 0)) fun t4 =>
opW (loadAgg 36 t4 H1) fun t5 H5 =>
wCall P n_slot_Right [t5] H5 fun t6 H7 =>
wIf t6 (
opP (offPtr 0 t1) fun t8 =>
opP (idxPtr 2 36 t8 (.int .i64 1)) fun t9 =>
opW (loadAgg 36 t9 H7) fun t10 H11 =>
wCall P n_slot_Right [t10] H11 fun t11 H13 =>
opP (pickA t6 t11 (.bool false)) fun t12 =>
wIf t12 (
opP (offPtr 72 t1) fun t14 =>
opW (loadOne t14 H13) fun t15 H17 =>
wCall P n_table_index [t15] H17 fun t16 H19 =>
opP (pickA t12 t16 (.bool false)) fun t17 =>
wIf t17 (
opP (offPtr 73 t1) fun t19 =>
opW (loadOne t19 H19) fun t20 H23 =>
opP ((binC P .eql 3 true).f t20 (.int .i64 (-1))) fun t21 =>
wIf t21 (
opP (pickA t21 (.bool true) undef) fun t26 =>
opP (pickA t17 t26 (.bool false)) fun t27 =>
opP (offPtr 74 t1) fun t29 =>
opW (loadOne t29 H23) fun t30 H29 =>
opP ((binC P .leq 30 true).f t30 (.int .u64 281474976710656)) fun t31 =>
opP (pickA t27 t31 (.bool false)) fun t32 =>
K t32 H29) (
opP (offPtr 73 t1) fun t23 =>
opW (loadOne t23 H23) fun t24 H34 =>
wCall P n_table_index [t24] H34 fun t25 H36 =>
opP (pickA t21 (.bool true) t25) fun t26_1 =>
opP (pickA t17 t26_1 (.bool false)) fun t27_1 =>
wIf t27_1 (
opP (offPtr 74 t1) fun t29_1 =>
opW (loadOne t29_1 H36) fun t30_1 H41 =>
opP ((binC P .leq 30 true).f t30_1 (.int .u64 281474976710656)) fun t31_1 =>
opP (pickA t27_1 t31_1 (.bool false)) fun t32_1 =>
K t32_1 H41) (
opP (pickA t27_1 undef (.bool false)) fun t32_2 =>
K t32_2 H36))) (
opP (pickA t17 undef (.bool false)) fun t27_2 =>
opP (pickA t27_2 undef (.bool false)) fun t32_3 =>
K t32_3 H19)) (
opP (pickA t12 undef (.bool false)) fun t17_1 =>
opP (pickA t17_1 undef (.bool false)) fun t27_3 =>
opP (pickA t27_3 undef (.bool false)) fun t32_4 =>
K t32_4 H13)) (
opP (pickA t6 undef (.bool false)) fun t12_1 =>
opP (pickA t12_1 undef (.bool false)) fun t17_2 =>
opP (pickA t17_2 undef (.bool false)) fun t27_4 =>
opP (pickA t27_4 undef (.bool false)) fun t32_5 =>
K t32_5 H7)
theorem table_Right_eq (t0 : Value) (H : Heap) (K : Value → Heap → Prop) : vcF P n_table_Right [t0] H K = table_Right t0 H K := by kernel_rfl
theorem table_Right_ok {t0 : Value} {H : Heap} {K : Value → Heap → Prop} (h : table_Right t0 H K) : wCall P n_table_Right [t0] H K := wCall_of_vcF rfl ((table_Right_eq t0 H K).mpr h)
noncomputable abbrev table_Put_P0 : Code := loopAt P n_table_Put 0
def table_Put_L0 (l : List Value) (H : Heap) (N : List Value → Heap → Prop) (Qx : Nat → List Value → Heap → Prop) (Qr : List Value → Heap → Prop) : Prop :=
opP ((binC P .lss 3 false).f (nth l 4) (nth l 3)) fun t16 =>
wIf t16 (
opP (idxSl 40 (nth l 2) (nth l 4)) fun t17 =>
opW (loadAgg 40 t17 H) fun t18 H3 =>
wNew (zc P 41) H3 fun t5 H5 =>
opW (storeTo 40 t5 t18 H5) fun u H7 =>
opP (offPtr 0 t5) fun t20 =>
opW (loadOne t20 H7) fun t21 H10 =>
opW (cvInt .u64 t21 H10) fun t22 H12 =>
wCall P n_code_Fixed [(nth l 1), t22, (.int .i64 1)] H12 fun t23 H14 =>
opP (offPtr 0 t5) fun t24 =>
opW (loadOne t24 H14) fun t25 H17 =>
opP ((binC P .eql 3 true).f t25 (.int .i64 1)) fun t27 =>
wIf t27 (
opP (offPtr 1 t5) fun t29 =>
opW (loadOne t29 H17) fun t30 H21 =>
opW (cvInt .u64 t30 H21) fun t31 H23 =>
wCall P n_code_Fixed [t23, t31, (.int .i64 1)] H23 fun t32 H25 =>
opP (offPtr 3 t5) fun t33 =>
opW (loadAgg 36 t33 H25) fun t34 H28 =>
cSame (sameB H23 H25) (idsOf [t33]) ∧ (wCall P n_slot_Bytes [t34] H28 fun t35 H30 =>
opW ((buildSliceC P 65 1).f [(0, t35)] H30) fun t36 H32 =>
wCall P n_code_Raw [t32, t36] H32 fun t37 H34 =>
opP ((binC P .add 3 true).f (nth l 4) (.int .i64 1)) fun t59 =>
N [(nth l 0), t37, (nth l 2), (nth l 3), t59] H34)) (
opP ((binC P .eql 3 true).f t25 (.int .i64 2)) fun t39 =>
wIf t39 (
opP (offPtr 2 t5) fun t41 =>
opW (loadOne t41 H17) fun t42 H39 =>
opW (cvInt .u64 t42 H39) fun t43 H41 =>
wCall P n_code_Fixed [t23, t43, (.int .i64 1)] H41 fun t44 H43 =>
opP ((binC P .add 3 true).f (nth l 4) (.int .i64 1)) fun t59_1 =>
N [(nth l 0), t44, (nth l 2), (nth l 3), t59_1] H43) (
opP ((binC P .eql 3 true).f t25 (.int .i64 3)) fun t46 =>
wIf t46 (
opP (offPtr 2 t5) fun t48 =>
opW (loadOne t48 H17) fun t49 H48 =>
opP ((binC P .sub 3 true).f t49 (.int .i64 (-1))) fun t50 =>
opW (cvInt .u64 t50 H48) fun t51 H51 =>
wCall P n_code_Fixed [t23, t51, (.int .i64 1)] H51 fun t52 H53 =>
opP ((binC P .add 3 true).f (nth l 4) (.int .i64 1)) fun t59_2 =>
N [(nth l 0), t52, (nth l 2), (nth l 3), t59_2] H53) (
opP ((binC P .eql 3 true).f t25 (.int .i64 4)) fun t54 =>
wIf t54 (
opP (offPtr 39 t5) fun t56 =>
opW (loadOne t56 H17) fun t57 H58 =>
wCall P n_code_Fixed [t23, t57, (.int .i64 8)] H58 fun t58 H60 =>
opP ((binC P .add 3 true).f (nth l 4) (.int .i64 1)) fun t59_3 =>
N [(nth l 0), t58, (nth l 2), (nth l 3), t59_3] H60) (
opP ((binC P .add 3 true).f (nth l 4) (.int .i64 1)) fun t59_4 =>
N [(nth l 0), t23, (nth l 2), (nth l 3), t59_4] H17))))) (
Qx 0 [(nth l 0), (nth l 1)] H)
theorem table_Put_L0_eq (l : List Value) (H : Heap) (N : List Value → Heap → Prop) (Qx : Nat → List Value → Heap → Prop) (Qr : List Value → Heap → Prop) : vcC P true 61 table_Put_P0 (live table_Put_P0 0 12) 12 (envOf (bits 61 (live table_Put_P0 0 12)) l) H (loopQ 61 table_Put_P0 12 N Qx Qr) = table_Put_L0 l H N Qx Qr := by kernel_rfl
theorem table_Put_L0_ind (I : Nat → List Value → Heap → Prop) (Qx : Nat → List Value → Heap → Prop) (Qr : List Value → Heap → Prop) (hs : ∀ k l H, I k l H → table_Put_L0 l H (fun l H => ∃ k', k' < k ∧ I k' l H) Qx Qr) (k : Nat) (l : List Value) (H : Heap) (h : I k l H) : wLoop P true 61 table_Put_P0 12 l H Qx Qr :=
  loop_ind (by kernel_rfl) I (fun k l H h => (table_Put_L0_eq l H _ Qx Qr).mpr (hs k l H h)) k l H h
def table_Put (t0 : Value) (H : Heap) (K : Value → Heap → Prop) : Prop :=
wCall P n_table_transaction [t0] H fun t7 H1 =>
opP (unA .not t7) fun t8 =>
wIf t8 (
K (.slice none 0 0) H1) (
opW (lenSl t0 H1) fun t10 H4 =>
opW (cvInt .u64 t10 H4) fun t11 H6 =>
wCall P n_code_Fixed [(.slice none 0 0), t11, (.int .i64 1)] H6 fun t12 H8 =>
opW (lenSl t0 H8) fun t14 H10 =>
wLoop P true 61 table_Put_P0 12 [(.slice none 0 0), t12, t0, t14, (.int .i64 0)] H10 (fun id l H12 =>
cond (Nat.beq id 0) (
K (nth l 1) H12) (
False)) (fun l H12 =>
K (nth l 0) H12))
theorem table_Put_eq (t0 : Value) (H : Heap) (K : Value → Heap → Prop) : vcF P n_table_Put [t0] H K = table_Put t0 H K := by kernel_rfl
theorem table_Put_ok {t0 : Value} {H : Heap} {K : Value → Heap → Prop} (h : table_Put t0 H K) : wCall P n_table_Put [t0] H K := wCall_of_vcF rfl ((table_Put_eq t0 H K).mpr h)
def table_Store_Do (t0 t1 : Value) (H : Heap) (K : Value → Heap → Prop) : Prop :=
opP (nilCheckA t0) fun t10 =>
opP (offPtr 1 t10) fun t11 =>
opW (loadAgg 75 t11 H) fun t12 H3 =>
wCall P n_table_Apply [t12, t1] H3 fun t14 H5 =>
opP (extA 0 t14) fun t15 =>
opP (extA 1 t14) fun t16 =>
wNew (zc P 37) H5 fun t5 H9 =>
opW (storeTo 75 t5 t15 H9) fun u H11 =>
opP ((binC P .neq 24 true).f t16 (.int .i64 0)) fun t18 =>
wIf t18 (
K t16 H11) (
opW (loadAgg 75 t5 H11) fun t21 H14 =>
wCall P n_table_Store_keep [t0, t21, t1] H14 fun t23 H16 =>
opP ((binC P .neq 24 true).f t23 (.int .i64 0)) fun t25 =>
wIf t25 (
K t23 H16) (
opW (loadAgg 75 t5 H16) fun t28 H19 =>
opP (nilCheckA t0) fun t29 =>
opP (offPtr 1 t29) fun t30 =>
opW (storeTo 75 t30 t28 H19) fun u_1 H23 =>
K (.int .i64 0) H23))
theorem table_Store_Do_eq (t0 t1 : Value) (H : Heap) (K : Value → Heap → Prop) : vcF P n_table_Store_Do [t0, t1] H K = table_Store_Do t0 t1 H K := by kernel_rfl
theorem table_Store_Do_ok {t0 t1 : Value} {H : Heap} {K : Value → Heap → Prop} (h : table_Store_Do t0 t1 H K) : wCall P n_table_Store_Do [t0, t1] H K := wCall_of_vcF rfl ((table_Store_Do_eq t0 t1 H K).mpr h)
def table_Store_Table (t0 : Value) (H : Heap) (K : Value → Heap → Prop) : Prop :=
wNew (zc P 37) H fun t2 H1 =>
opP (nilCheckA t0) fun t4 =>
opP (offPtr 1 t4) fun t5 =>
opW (loadAgg 75 t5 H1) fun t6 H5 =>
opW (storeTo 75 t2 t6 H5) fun u H7 =>
opW (loadAgg 75 t2 H7) fun r _ =>
K r H7
theorem table_Store_Table_eq (t0 : Value) (H : Heap) (K : Value → Heap → Prop) : vcF P n_table_Store_Table [t0] H K = table_Store_Table t0 H K := by kernel_rfl
theorem table_Store_Table_ok {t0 : Value} {H : Heap} {K : Value → Heap → Prop} (h : table_Store_Table t0 H K) : wCall P n_table_Store_Table [t0] H K := wCall_of_vcF rfl ((table_Store_Table_eq t0 H K).mpr h)
def table_Store_Left (t0 : Value) (H : Heap) (K : Value → Heap → Prop) : Prop :=
opP (nilCheckA t0) fun t4 =>
opP (offPtr 0 t4) fun t5 =>
opW (loadOne t5 H) fun t6 H3 =>
wCall P n_journal_Journal_Left [t6] H3 fun t7 H5 =>
K t7 H5
theorem table_Store_Left_eq (t0 : Value) (H : Heap) (K : Value → Heap → Prop) : vcF P n_table_Store_Left [t0] H K = table_Store_Left t0 H K := by kernel_rfl
theorem table_Store_Left_ok {t0 : Value} {H : Heap} {K : Value → Heap → Prop} (h : table_Store_Left t0 H K) : wCall P n_table_Store_Left [t0] H K := wCall_of_vcF rfl ((table_Store_Left_eq t0 H K).mpr h)
def journal_Open (t0 t1 t2 : Value) (H : Heap) (K : Value → Heap → Prop) : Prop :=
opP ((buildC P 29).f [(0, t1), (1, t2)]) fun t14 =>
opP ((buildC P 108).f [(0, t0), (1, t14), (2, (.int .i64 1))]) fun t15 =>
wNew (cellsL t15) H fun t16 H3 =>
wCall P n_journal_stands [t0, t1] H3 fun t19 H5 =>
wCall P n_journal_stands [t0, t2] H5 fun t22 H7 =>
wNew (zc P 110) H7 fun t9 H9 =>
wNew (zc P 110) H9 fun t10 H11 =>
opW (storeTo 3 t9 t19 H11) fun u H13 =>
opW (storeTo 3 t10 t22 H13) fun u_1 H15 =>
wJoin (fun J =>
wJoin (fun J_1 =>
opP (offPtr 0 t9) fun t23 =>
opW (loadOne t23 H15) fun t24 H20 =>
opW (lenSl t24 H20) fun t25 H22 =>
opP ((binC P .gtr 3 true).f t25 (.int .i64 0)) fun t26 =>
wIf t26 (
opP (offPtr 0 t10) fun t28 =>
opW (loadOne t28 H22) fun t29 H26 =>
opW (lenSl t29 H26) fun t30 H28 =>
opP ((binC P .eql 3 true).f t30 (.int .i64 0)) fun t31 =>
wIf t31 (
opP (pickA t31 (.bool true) undef) fun t38 =>
opP (pickA t26 t38 (.bool false)) fun t39 =>
J_1 [t16, t9, t10, t39] H28) (
opP (offPtr 1 t9) fun t33 =>
opW (loadOne t33 H28) fun t34 H34 =>
opP (offPtr 1 t10) fun t35 =>
opW (loadOne t35 H34) fun t36 H37 =>
opP ((binC P .gtr 30 false).f t34 t36) fun t37 =>
opP (pickA t31 (.bool true) t37) fun t38_1 =>
opP (pickA t26 t38_1 (.bool false)) fun t39_1 =>
J_1 [t16, t9, t10, t39_1] H37)) (
opP (pickA t26 undef (.bool false)) fun t39_2 =>
J_1 [t16, t9, t10, t39_2] H22)) (fun l H43 =>
wIf (nth l 3) (
opW (loadAgg 3 (nth l 1) H43) fun t41 H45 =>
opP (nilCheckA (nth l 0)) fun t42 =>
opP (offPtr 3 t42) fun t43 =>
opW (storeTo 1 t43 (.int .i64 0) H45) fun u_2 H49 =>
cApart (idsOf [(nth l 1)]) (idsOf [t43, (.int .i64 0)]) ∧ (opW (storeTo 3 (nth l 2) t41 H49) fun u_3 H51 =>
J [(nth l 0), (nth l 2)] H51)) (
J [(nth l 0), (nth l 2)] H43))) (fun l_1 H53 =>
opP (offPtr 2 (nth l_1 1)) fun t45 =>
opW (loadOne t45 H53) fun t46 H56 =>
opP (nilCheckA (nth l_1 0)) fun t47 =>
opP (offPtr 4 t47) fun t48 =>
opW (storeTo 1 t48 t46 H56) fun u_4 H60 =>
opP (offPtr 0 (nth l_1 1)) fun t50 =>
opW (loadOne t50 H60) fun t51 H63 =>
K (.tuple [(nth l_1 0), t51].toArray) H63)
theorem journal_Open_eq (t0 t1 t2 : Value) (H : Heap) (K : Value → Heap → Prop) : vcF P n_journal_Open [t0, t1, t2] H K = journal_Open t0 t1 t2 H K := by kernel_rfl
theorem journal_Open_ok {t0 t1 t2 : Value} {H : Heap} {K : Value → Heap → Prop} (h : journal_Open t0 t1 t2 H K) : wCall P n_journal_Open [t0, t1, t2] H K := wCall_of_vcF rfl ((journal_Open_eq t0 t1 t2 H K).mpr h)
def part_Map_Device (t0 : Value) (H : Heap) (K : Value → Heap → Prop) : Prop :=
opP (nilCheckA t0) fun t4 =>
opP (offPtr 0 t4) fun t5 =>
opW (loadOne t5 H) fun t6 H3 =>
K t6 H3
theorem part_Map_Device_eq (t0 : Value) (H : Heap) (K : Value → Heap → Prop) : vcF P n_part_Map_Device [t0] H K = part_Map_Device t0 H K := by kernel_rfl
theorem part_Map_Device_ok {t0 : Value} {H : Heap} {K : Value → Heap → Prop} (h : part_Map_Device t0 H K) : wCall P n_part_Map_Device [t0] H K := wCall_of_vcF rfl ((part_Map_Device_eq t0 H K).mpr h)
def flash_Device_Budget (t0 t1 : Value) (H : Heap) (K : Value → Heap → Prop) : Prop :=
opW (withH H (maxA [t1, (.int .i64 (-1))])) fun t6 H1 =>
opP (nilCheckA t0) fun t7 =>
opP (offPtr 3 t7) fun t8 =>
opW (storeTo 1 t8 t6 H1) fun u H5 =>
K (.tuple [].toArray) H5
theorem flash_Device_Budget_eq (t0 t1 : Value) (H : Heap) (K : Value → Heap → Prop) : vcF P n_flash_Device_Budget [t0, t1] H K = flash_Device_Budget t0 t1 H K := by kernel_rfl
theorem flash_Device_Budget_ok {t0 t1 : Value} {H : Heap} {K : Value → Heap → Prop} (h : flash_Device_Budget t0 t1 H K) : wCall P n_flash_Device_Budget [t0, t1] H K := wCall_of_vcF rfl ((flash_Device_Budget_eq t0 t1 H K).mpr h)
noncomputable abbrev flash_Device_Restart_P0 : Code := loopAt P n_flash_Device_Restart 0
noncomputable abbrev flash_Device_Restart_P1 : Code := loopAt P n_flash_Device_Restart 1
def flash_Device_Restart_L0 (l : List Value) (H : Heap) (N : List Value → Heap → Prop) (Qx : Nat → List Value → Heap → Prop) (Qr : List Value → Heap → Prop) : Prop :=
opP ((binC P .lss 3 false).f (nth l 4) (nth l 3)) fun t15 =>
wIf t15 (
opP (idxSl 65 (nth l 2) (nth l 4)) fun t17 =>
opW (loadAgg 65 t17 H) fun t18 H3 =>
wNew (zc P 123) H3 fun t5 H5 =>
opW (storeTo 65 t5 t18 H5) fun u H7 =>
opW (lenSl (nth l 1) H7) fun t21 H9 =>
opP ((binC P .lss 3 false).f (nth l 4) t21) fun t22 =>
wIf t22 (
opP (idxSl 1 (nth l 1) (nth l 4)) fun t25 =>
opW (loadOne t25 H9) fun t26 H13 =>
opW (cvInt .i64 t26 H13) fun t27 H15 =>
opW (withH H15 (minA [t27, (.int .i64 64)])) fun t28 H17 =>
opP (nilCheckA (nth l 0)) fun t30 =>
opP (offPtr 0 t30) fun t31 =>
opW (loadOne t31 H17) fun t32 H21 =>
opP (offPtr 0 t5) fun t33 =>
opW (loadOne t33 H21) fun t34 H24 =>
opP (idxSl 129 t32 t34) fun t35 =>
opP (offPtr 0 t35) fun t36 =>
opP (sliceArr 64 1 t36 none (some t28) none H24) fun t38 =>
opP (offPtr 1 t5) fun t39 =>
opP (sliceArr 64 1 t39 none (some t28) none H24) fun t41 =>
opW (copyTo 1 t38 t41 H24) fun t42 H31 =>
opP ((binC P .add 3 true).f (nth l 4) (.int .i64 1)) fun t43 =>
N [(nth l 0), (nth l 1), (nth l 2), (nth l 3), t43] H31) (
opP ((binC P .add 3 true).f (nth l 4) (.int .i64 1)) fun t43_1 =>
N [(nth l 0), (nth l 1), (nth l 2), (nth l 3), t43_1] H9)) (
Qx 0 [(nth l 0)] H)
theorem flash_Device_Restart_L0_eq (l : List Value) (H : Heap) (N : List Value → Heap → Prop) (Qx : Nat → List Value → Heap → Prop) (Qr : List Value → Heap → Prop) : vcC P true 80 flash_Device_Restart_P0 (live flash_Device_Restart_P0 0 1) 1 (envOf (bits 80 (live flash_Device_Restart_P0 0 1)) l) H (loopQ 80 flash_Device_Restart_P0 1 N Qx Qr) = flash_Device_Restart_L0 l H N Qx Qr := by kernel_rfl
theorem flash_Device_Restart_L0_ind (I : Nat → List Value → Heap → Prop) (Qx : Nat → List Value → Heap → Prop) (Qr : List Value → Heap → Prop) (hs : ∀ k l H, I k l H → flash_Device_Restart_L0 l H (fun l H => ∃ k', k' < k ∧ I k' l H) Qx Qr) (k : Nat) (l : List Value) (H : Heap) (h : I k l H) : wLoop P true 80 flash_Device_Restart_P0 1 l H Qx Qr :=
  loop_ind (by kernel_rfl) I (fun k l H h => (flash_Device_Restart_L0_eq l H _ Qx Qr).mpr (hs k l H h)) k l H h
def flash_Device_Restart_L1 (l : List Value) (H : Heap) (N : List Value → Heap → Prop) (Qx : Nat → List Value → Heap → Prop) (Qr : List Value → Heap → Prop) : Prop :=
opP ((binC P .lss 3 false).f (nth l 3) (nth l 2)) fun t50 =>
wIf t50 (
opP (idxSl 65 (nth l 1) (nth l 3)) fun t51 =>
opW (loadAgg 65 t51 H) fun t52 H3 =>
wNew (zc P 123) H3 fun t8 H5 =>
opW (storeTo 65 t8 t52 H5) fun u H7 =>
opP (nilCheckA (nth l 0)) fun t54 =>
opP (offPtr 0 t54) fun t55 =>
opW (loadOne t55 H7) fun t56 H11 =>
opP (offPtr 0 t8) fun t57 =>
opW (loadOne t57 H11) fun t58 H14 =>
opP (nilCheckA (nth l 0)) fun t60 =>
opP (offPtr 0 t60) fun t61 =>
opW (loadOne t61 H14) fun t62 H18 =>
opP (offPtr 0 t8) fun t63 =>
opW (loadOne t63 H18) fun t64 H21 =>
opP (idxSl 129 t62 t64) fun t65 =>
opP (offPtr 0 t65) fun t66 =>
opW (loadAgg 64 t66 H21) fun t67 H25 =>
opP (idxSl 129 t56 t58) fun t68 =>
opP (offPtr 64 t68) fun t69 =>
opW (storeTo 64 t69 t67 H25) fun u_1 H29 =>
opP ((binC P .add 3 true).f (nth l 3) (.int .i64 1)) fun t70 =>
N [(nth l 0), (nth l 1), (nth l 2), t70] H29) (
Qx 2 [(nth l 0)] H)
theorem flash_Device_Restart_L1_eq (l : List Value) (H : Heap) (N : List Value → Heap → Prop) (Qx : Nat → List Value → Heap → Prop) (Qr : List Value → Heap → Prop) : vcC P true 80 flash_Device_Restart_P1 (live flash_Device_Restart_P1 0 1) 1 (envOf (bits 80 (live flash_Device_Restart_P1 0 1)) l) H (loopQ 80 flash_Device_Restart_P1 1 N Qx Qr) = flash_Device_Restart_L1 l H N Qx Qr := by kernel_rfl
theorem flash_Device_Restart_L1_ind (I : Nat → List Value → Heap → Prop) (Qx : Nat → List Value → Heap → Prop) (Qr : List Value → Heap → Prop) (hs : ∀ k l H, I k l H → flash_Device_Restart_L1 l H (fun l H => ∃ k', k' < k ∧ I k' l H) Qx Qr) (k : Nat) (l : List Value) (H : Heap) (h : I k l H) : wLoop P true 80 flash_Device_Restart_P1 1 l H Qx Qr :=
  loop_ind (by kernel_rfl) I (fun k l H h => (flash_Device_Restart_L1_eq l H _ Qx Qr).mpr (hs k l H h)) k l H h
def flash_Device_Restart (t0 t1 : Value) (H : Heap) (K : Value → Heap → Prop) : Prop :=
opP (nilCheckA t0) fun t10 =>
opP (offPtr 1 t10) fun t11 =>
opW (loadOne t11 H) fun t12 H3 =>
opW (lenSl t12 H3) fun t13 H5 =>
wLoop P true 80 flash_Device_Restart_P0 1 [t0, t1, t12, t13, (.int .i64 0)] H5 (fun id l H7 =>
cond (Nat.beq id 0) (
opP (nilCheckA (nth l 0)) fun t45 =>
opP (offPtr 1 t45) fun t46 =>
opW (loadOne t46 H7) fun t47 H11 =>
opW (lenSl t47 H11) fun t48 H13 =>
wLoop P true 80 flash_Device_Restart_P1 1 [(nth l 0), t47, t48, (.int .i64 0)] H13 (fun id l_1 H15 =>
cond (Nat.beq id 2) (
opP (nilCheckA (nth l_1 0)) fun t74 =>
opP (offPtr 1 t74) fun t75 =>
opW (storeTo 1 t75 (.slice none 0 0) H15) fun u H19 =>
opP (nilCheckA (nth l_1 0)) fun t76 =>
opP (offPtr 3 t76) fun t77 =>
opW (storeTo 1 t77 (.int .i64 (-1)) H19) fun u_1 H23 =>
opP (nilCheckA (nth l_1 0)) fun t78 =>
opP (offPtr 4 t78) fun t79 =>
opW (storeTo 1 t79 (.bool false) H23) fun u_2 H27 =>
K (.tuple [].toArray) H27) (
False)) (fun l_1 H15 =>
K (.tuple [].toArray) H15)) (
False)) (fun l H7 =>
K (.tuple [].toArray) H7)
theorem flash_Device_Restart_eq (t0 t1 : Value) (H : Heap) (K : Value → Heap → Prop) : vcF P n_flash_Device_Restart [t0, t1] H K = flash_Device_Restart t0 t1 H K := by kernel_rfl
theorem flash_Device_Restart_ok {t0 t1 : Value} {H : Heap} {K : Value → Heap → Prop} (h : flash_Device_Restart t0 t1 H K) : wCall P n_flash_Device_Restart [t0, t1] H K := wCall_of_vcF rfl ((flash_Device_Restart_eq t0 t1 H K).mpr h)
noncomputable abbrev table_replay_P0 : Code := loopAt P n_table_replay 0
def table_replay_L0 (l : List Value) (H : Heap) (N : List Value → Heap → Prop) (Qx : Nat → List Value → Heap → Prop) (Qr : List Value → Heap → Prop) : Prop :=
opP ((binC P .lss 3 false).f (nth l 4) (nth l 3)) fun t31 =>
wIf t31 (
opP (idxSl 1 (nth l 2) (nth l 4)) fun t32 =>
opW (loadOne t32 H) fun t33 H3 =>
wCall P n_table_Get [t33] H3 fun t36 H5 =>
opP (extA 0 t36) fun t37 =>
opP (extA 1 t36) fun t38 =>
opP ((binC P .neq 24 true).f t38 (.int .i64 0)) fun t40 =>
wIf t40 (
opW (loadAgg 75 (nth l 1) H5) fun t41 H10 =>
opW (storeTo 75 (nth l 0) t41 H10) fun u H12 =>
Qr [(nth l 0), (nth l 1)] H12) (
opW (loadAgg 75 (nth l 1) H5) fun t43 H14 =>
wCall P n_table_Apply [t43, t37] H14 fun t45 H16 =>
opP (extA 0 t45) fun t46 =>
opP (extA 1 t45) fun t47 =>
wNew (zc P 37) H16 fun t11 H20 =>
opW (storeTo 75 t11 t46 H20) fun u_1 H22 =>
opP ((binC P .neq 24 true).f t47 (.int .i64 0)) fun t49 =>
wIf t49 (
opW (loadAgg 75 (nth l 1) H22) fun t50 H25 =>
opW (storeTo 75 (nth l 0) t50 H25) fun u_2 H27 =>
Qr [(nth l 0), (nth l 1)] H27) (
opW (loadAgg 75 t11 H22) fun t51 H29 =>
opW (storeTo 75 (nth l 1) t51 H29) fun u_3 H31 =>
opP ((binC P .add 3 true).f (nth l 4) (.int .i64 1)) fun t52 =>
N [(nth l 0), (nth l 1), (nth l 2), (nth l 3), t52] H31))) (
Qx 0 [(nth l 0), (nth l 1)] H)
theorem table_replay_L0_eq (l : List Value) (H : Heap) (N : List Value → Heap → Prop) (Qx : Nat → List Value → Heap → Prop) (Qr : List Value → Heap → Prop) : vcC P true 54 table_replay_P0 (live table_replay_P0 0 48) 48 (envOf (bits 54 (live table_replay_P0 0 48)) l) H (loopQ 54 table_replay_P0 48 N Qx Qr) = table_replay_L0 l H N Qx Qr := by kernel_rfl
theorem table_replay_L0_ind (I : Nat → List Value → Heap → Prop) (Qx : Nat → List Value → Heap → Prop) (Qr : List Value → Heap → Prop) (hs : ∀ k l H, I k l H → table_replay_L0 l H (fun l H => ∃ k', k' < k ∧ I k' l H) Qx Qr) (k : Nat) (l : List Value) (H : Heap) (h : I k l H) : wLoop P true 54 table_replay_P0 48 l H Qx Qr :=
  loop_ind (by kernel_rfl) I (fun k l H h => (table_replay_L0_eq l H _ Qx Qr).mpr (hs k l H h)) k l H h
def table_replay (t0 t1 : Value) (H : Heap) (K : Value → Heap → Prop) : Prop :=
wNew (cellsL t1) H fun t3 H1 =>
wNew (zc P 37) H1 fun t4 H3 =>
opW (lenSl t0 H3) fun t14 H5 =>
opP ((binC P .eql 3 true).f t14 (.int .i64 0)) fun t15 =>
wIf t15 (
opW (loadAgg 75 t3 H5) fun t16 H8 =>
opW (storeTo 75 t4 t16 H8) fun u H10 =>
opW (loadAgg 75 t4 H10) fun r _ =>
K r H10) (
opP (idxSl 1 t0 (.int .i64 0)) fun t19 =>
opW (loadOne t19 H5) fun t20 H14 =>
wCall P n_table_Parse [t20] H14 fun t21 H16 =>
opP (extA 0 t21) fun t22 =>
opP (extA 1 t21) fun t23 =>
wNew (zc P 37) H16 fun t5 H20 =>
opW (storeTo 75 t5 t22 H20) fun u_1 H22 =>
opP ((binC P .neq 24 true).f t23 (.int .i64 0)) fun t25 =>
wIf t25 (
opW (loadAgg 75 t3 H22) fun t26 H25 =>
opW (storeTo 75 t4 t26 H25) fun u_2 H27 =>
opW (loadAgg 75 t4 H27) fun r_1 _ =>
K r_1 H27) (
opP (sliceSl 1 t0 (some (.int .i64 1)) none none) fun t28 =>
opW (lenSl t28 H22) fun t29 H31 =>
wLoop P true 54 table_replay_P0 48 [t4, t5, t28, t29, (.int .i64 0)] H31 (fun id l H33 =>
cond (Nat.beq id 0) (
opW (loadAgg 75 (nth l 1) H33) fun t53 H35 =>
opW (storeTo 75 (nth l 0) t53 H35) fun u_3 H37 =>
opW (loadAgg 75 (nth l 0) H37) fun r_2 _ =>
K r_2 H37) (
False)) (fun l H33 =>
opW (loadAgg 75 (nth l 0) H33) fun r_3 _ =>
K r_3 H33)))
theorem table_replay_eq (t0 t1 : Value) (H : Heap) (K : Value → Heap → Prop) : vcF P n_table_replay [t0, t1] H K = table_replay t0 t1 H K := by kernel_rfl
theorem table_replay_ok {t0 t1 : Value} {H : Heap} {K : Value → Heap → Prop} (h : table_replay t0 t1 H K) : wCall P n_table_replay [t0, t1] H K := wCall_of_vcF rfl ((table_replay_eq t0 t1 H K).mpr h)
noncomputable abbrev part_New_P0 : Code := loopAt P n_part_New 0
def part_New_L0 (l : List Value) (H : Heap) (N : List Value → Heap → Prop) (Qx : Nat → List Value → Heap → Prop) (Qr : List Value → Heap → Prop) : Prop :=
opP ((binC P .lss 3 false).f (nth l 7) (nth l 6)) fun t24 =>
wIf t24 (
opP (idxSl 1 (nth l 5) (nth l 7)) fun t25 =>
opW (loadOne t25 H) fun t26 H3 =>
wJoin (fun J =>
opP ((binC P .lss 3 true).f t26 (.int .i64 1)) fun t28 =>
wIf t28 (
opP (pickA t28 (.bool true) undef) fun t36 =>
J [(nth l 0), (nth l 1), (nth l 2), (nth l 3), (nth l 4), t26, (nth l 5), (nth l 6), (nth l 7), t36] H3) (
wCall P n_flash_Device_Size [(nth l 0)] H3 fun t32 H8 =>
opP ((binC P .sub 3 false).f t32 (nth l 4)) fun t34 =>
opP ((binC P .gtr 3 false).f t26 t34) fun t35 =>
opP (pickA t28 (.bool true) t35) fun t36_1 =>
J [(nth l 0), (nth l 1), (nth l 2), (nth l 3), (nth l 4), t26, (nth l 5), (nth l 6), (nth l 7), t36_1] H8)) (fun l_1 H13 =>
wIf (nth l_1 9) (
Qr [(.pointer none), (.int .i64 71), (nth l_1 3)] H13) (
opP (nilCheckA (nth l_1 3)) fun t39 =>
opP (offPtr 1 t39) fun t40 =>
opW (loadOne t40 H13) fun t41 H17 =>
opP ((buildC P 128).f [(0, (nth l_1 4)), (1, (nth l_1 5))]) fun t44 =>
opW ((buildSliceC P 112 1).f [(0, t44)] H17) fun t45 H20 =>
opW (appendWith 2 16 t41 t45 H20) fun t46 H22 =>
opP (nilCheckA (nth l_1 3)) fun t47 =>
opP (offPtr 1 t47) fun t48 =>
opW (storeTo 1 t48 t46 H22) fun u H26 =>
opP ((binC P .add 3 false).f (nth l_1 4) (nth l_1 5)) fun t51 =>
opP ((binC P .add 3 true).f (nth l_1 8) (.int .i64 1)) fun t52 =>
N [(nth l_1 0), (nth l_1 1), (nth l_1 2), (nth l_1 3), t51, (nth l_1 6), (nth l_1 7), t52] H26))) (
Qx 0 [(nth l 1), (nth l 2), (nth l 3)] H)
theorem part_New_L0_eq (l : List Value) (H : Heap) (N : List Value → Heap → Prop) (Qx : Nat → List Value → Heap → Prop) (Qr : List Value → Heap → Prop) : vcC P true 54 part_New_P0 (live part_New_P0 0 112) 112 (envOf (bits 54 (live part_New_P0 0 112)) l) H (loopQ 54 part_New_P0 112 N Qx Qr) = part_New_L0 l H N Qx Qr := by kernel_rfl
theorem part_New_L0_ind (I : Nat → List Value → Heap → Prop) (Qx : Nat → List Value → Heap → Prop) (Qr : List Value → Heap → Prop) (hs : ∀ k l H, I k l H → part_New_L0 l H (fun l H => ∃ k', k' < k ∧ I k' l H) Qx Qr) (k : Nat) (l : List Value) (H : Heap) (h : I k l H) : wLoop P true 54 part_New_P0 112 l H Qx Qr :=
  loop_ind (by kernel_rfl) I (fun k l H h => (part_New_L0_eq l H _ Qx Qr).mpr (hs k l H h)) k l H h
def part_New (t0 t1 : Value) (H : Heap) (K : Value → Heap → Prop) : Prop :=
wJoin (fun J =>
opW (lenSl t1 H) fun t11 H2 =>
opP ((binC P .eql 3 true).f t11 (.int .i64 0)) fun t12 =>
wIf t12 (
opP (pickA t12 (.bool true) undef) fun t17 =>
J [t0, t1, (.pointer none), (.int .i64 0), t17] H2) (
opW (lenSl t1 H2) fun t15 H6 =>
opP ((binC P .gtr 3 true).f t15 (.int .i64 16)) fun t16 =>
opP (pickA t12 (.bool true) t16) fun t17_1 =>
J [t0, t1, (.pointer none), (.int .i64 0), t17_1] H6)) (fun l H10 =>
wIf (nth l 4) (
K (.tuple [(.pointer none), (.int .i64 71)].toArray) H10) (
opP ((buildC P 115).f [(0, (nth l 0))]) fun t19 =>
wNew (cellsL t19) H10 fun t20 H13 =>
opW (lenSl (nth l 1) H13) fun t22 H15 =>
wLoop P true 54 part_New_P0 112 [(nth l 0), (nth l 2), (nth l 3), t20, (.int .i64 0), (nth l 1), t22, (.int .i64 0)] H15 (fun id l_1 H17 =>
cond (Nat.beq id 0) (
K (.tuple [(nth l_1 2), (.int .i64 0)].toArray) H17) (
False)) (fun l_1 H17 =>
K (.tuple [(nth l_1 0), (nth l_1 1)].toArray) H17)))
theorem part_New_eq (t0 t1 : Value) (H : Heap) (K : Value → Heap → Prop) : vcF P n_part_New [t0, t1] H K = part_New t0 t1 H K := by kernel_rfl
theorem part_New_ok {t0 t1 : Value} {H : Heap} {K : Value → Heap → Prop} (h : part_New t0 t1 H K) : wCall P n_part_New [t0, t1] H K := wCall_of_vcF rfl ((part_New_eq t0 t1 H K).mpr h)
noncomputable abbrev flash_New_P0 : Code := loopAt P n_flash_New 0
def flash_New_L0 (l : List Value) (H : Heap) (N : List Value → Heap → Prop) (Qx : Nat → List Value → Heap → Prop) (Qr : List Value → Heap → Prop) : Prop :=
opP ((binC P .lss 3 false).f (nth l 3) (nth l 2)) fun t22 =>
wIf t22 (
opP (nilCheckA (nth l 1)) fun t25 =>
opP (offPtr 0 t25) fun t26 =>
opW (loadOne t26 H) fun t27 H4 =>
wCall P n_flash_Blank [] H4 fun t29 H6 =>
cSame (sameB H4 H6) (idsOf [t26]) ∧ (wCall P n_flash_Blank [] H6 fun t30 H8 =>
cSame (sameB H6 H8) (idsOf [t26]) ∧ (opP ((buildC P 125).f [(0, t29), (1, t30)]) fun t31 =>
opP (idxSl 129 t27 (nth l 3)) fun t32 =>
opW (storeTo 129 t32 t31 H8) fun u H12 =>
opP ((binC P .add 3 true).f (nth l 3) (.int .i64 1)) fun t33 =>
N [(nth l 0), (nth l 1), (nth l 2), t33] H12))) (
Qx 0 [(nth l 0), (nth l 1)] H)
theorem flash_New_L0_eq (l : List Value) (H : Heap) (N : List Value → Heap → Prop) (Qx : Nat → List Value → Heap → Prop) (Qr : List Value → Heap → Prop) : vcC P true 35 flash_New_P0 (live flash_New_P0 0 48) 48 (envOf (bits 35 (live flash_New_P0 0 48)) l) H (loopQ 35 flash_New_P0 48 N Qx Qr) = flash_New_L0 l H N Qx Qr := by kernel_rfl
theorem flash_New_L0_ind (I : Nat → List Value → Heap → Prop) (Qx : Nat → List Value → Heap → Prop) (Qr : List Value → Heap → Prop) (hs : ∀ k l H, I k l H → flash_New_L0 l H (fun l H => ∃ k', k' < k ∧ I k' l H) Qx Qr) (k : Nat) (l : List Value) (H : Heap) (h : I k l H) : wLoop P true 35 flash_New_P0 48 l H Qx Qr :=
  loop_ind (by kernel_rfl) I (fun k l H h => (flash_New_L0_eq l H _ Qx Qr).mpr (hs k l H h)) k l H h
def flash_New (t0 t1 : Value) (H : Heap) (K : Value → Heap → Prop) : Prop :=
opW (withH H (minA [t0, (.int .i64 4096)])) fun t8 H1 =>
opW (withH H1 (maxA [(.int .i64 0), t8])) fun t9 H3 =>
opW ((makeSliceC P 116).f t9 t9 H3) fun t10 H5 =>
opW (withH H5 (minA [t1, (.int .i64 100000)])) fun t12 H7 =>
opW (withH H7 (maxA [(.int .i64 0), t12])) fun t13 H9 =>
opP ((buildC P 119).f [(0, t10), (2, t13), (3, (.int .i64 (-1)))]) fun t14 =>
wNew (cellsL t14) H9 fun t15 H12 =>
opP (nilCheckA t15) fun t17 =>
opP (offPtr 0 t17) fun t18 =>
opW (loadOne t18 H12) fun t19 H16 =>
opW (lenSl t19 H16) fun t20 H18 =>
wLoop P true 35 flash_New_P0 48 [(.pointer none), t15, t20, (.int .i64 0)] H18 (fun id l H20 =>
cond (Nat.beq id 0) (
K (nth l 1) H20) (
False)) (fun l H20 =>
K (nth l 0) H20)
theorem flash_New_eq (t0 t1 : Value) (H : Heap) (K : Value → Heap → Prop) : vcF P n_flash_New [t0, t1] H K = flash_New t0 t1 H K := by kernel_rfl
theorem flash_New_ok {t0 t1 : Value} {H : Heap} {K : Value → Heap → Prop} (h : flash_New t0 t1 H K) : wCall P n_flash_New [t0, t1] H K := wCall_of_vcF rfl ((flash_New_eq t0 t1 H K).mpr h)
noncomputable abbrev table_transaction_P0 : Code := loopAt P n_table_transaction 0
def table_transaction_L0 (l : List Value) (H : Heap) (N : List Value → Heap → Prop) (Qx : Nat → List Value → Heap → Prop) (Qr : List Value → Heap → Prop) : Prop :=
opP ((binC P .lss 3 false).f (nth l 3) (nth l 2)) fun t11 =>
wIf t11 (
opP (idxSl 40 (nth l 1) (nth l 3)) fun t12 =>
opW (loadAgg 40 t12 H) fun t13 H3 =>
wNew (zc P 41) H3 fun t4 H5 =>
opW (storeTo 40 t4 t13 H5) fun u H7 =>
opW (loadAgg 40 t4 H7) fun t14 H9 =>
wCall P n_table_right [t14] H9 fun t15 H11 =>
opP (unA .not t15) fun t16 =>
wIf t16 (
Qr [(.bool false)] H11) (
opP ((binC P .add 3 true).f (nth l 3) (.int .i64 1)) fun t17 =>
N [(nth l 0), (nth l 1), (nth l 2), t17] H11)) (
Qx 0 [(nth l 0)] H)
theorem table_transaction_L0_eq (l : List Value) (H : Heap) (N : List Value → Heap → Prop) (Qx : Nat → List Value → Heap → Prop) (Qr : List Value → Heap → Prop) : vcC P true 18 table_transaction_P0 (live table_transaction_P0 0 4) 4 (envOf (bits 18 (live table_transaction_P0 0 4)) l) H (loopQ 18 table_transaction_P0 4 N Qx Qr) = table_transaction_L0 l H N Qx Qr := by kernel_rfl
theorem table_transaction_L0_ind (I : Nat → List Value → Heap → Prop) (Qx : Nat → List Value → Heap → Prop) (Qr : List Value → Heap → Prop) (hs : ∀ k l H, I k l H → table_transaction_L0 l H (fun l H => ∃ k', k' < k ∧ I k' l H) Qx Qr) (k : Nat) (l : List Value) (H : Heap) (h : I k l H) : wLoop P true 18 table_transaction_P0 4 l H Qx Qr :=
  loop_ind (by kernel_rfl) I (fun k l H h => (table_transaction_L0_eq l H _ Qx Qr).mpr (hs k l H h)) k l H h
def table_transaction (t0 : Value) (H : Heap) (K : Value → Heap → Prop) : Prop :=
opW (lenSl t0 H) fun t6 H1 =>
opP ((binC P .gtr 3 true).f t6 (.int .i64 8)) fun t7 =>
wIf t7 (
K (.bool false) H1) (
opW (lenSl t0 H1) fun t9 H4 =>
wLoop P true 18 table_transaction_P0 4 [(.bool false), t0, t9, (.int .i64 0)] H4 (fun id l H6 =>
cond (Nat.beq id 0) (
K (.bool true) H6) (
False)) (fun l H6 =>
K (nth l 0) H6))
theorem table_transaction_eq (t0 : Value) (H : Heap) (K : Value → Heap → Prop) : vcF P n_table_transaction [t0] H K = table_transaction t0 H K := by kernel_rfl
theorem table_transaction_ok {t0 : Value} {H : Heap} {K : Value → Heap → Prop} (h : table_transaction t0 H K) : wCall P n_table_transaction [t0] H K := wCall_of_vcF rfl ((table_transaction_eq t0 H K).mpr h)
def code_New (t0 : Value) (H : Heap) (K : Value → Heap → Prop) : Prop :=
opP ((buildC P 132).f [(0, t0)]) fun t4 =>
wNew (cellsL t4) H fun t5 H2 =>
K t5 H2
theorem code_New_eq (t0 : Value) (H : Heap) (K : Value → Heap → Prop) : vcF P n_code_New [t0] H K = code_New t0 H K := by kernel_rfl
theorem code_New_ok {t0 : Value} {H : Heap} {K : Value → Heap → Prop} (h : code_New t0 H K) : wCall P n_code_New [t0] H K := wCall_of_vcF rfl ((code_New_eq t0 H K).mpr h)
def slot_Read (t0 : Value) (H : Heap) (K : Value → Heap → Prop) : Prop :=
wNew (zc P 34) H fun t2 H1 =>
wCall P n_code_Reader_Raw [t0, (.int .i64 46)] H1 fun t9 H3 =>
wCall P n_code_Reader_Err [t0] H3 fun t11 H5 =>
opP ((binC P .neq 24 true).f t11 (.int .i64 0)) fun t13 =>
wIf t13 (
opP ((buildC P 34).f []) fun t14 =>
opW (storeTo 36 t2 t14 H5) fun u H9 =>
opW (loadAgg 36 t2 H9) fun r _ =>
K (.tuple [r, t11].toArray) H9) (
wCall P n_code_New [t9] H5 fun t17 H12 =>
wCall P n_code_Reader_Fixed [t17, (.int .i64 1)] H12 fun t19 H14 =>
opW (cvInt .i64 t19 H14) fun t20 H16 =>
wCall P n_code_Reader_Fixed [t17, (.int .i64 1)] H16 fun t22 H18 =>
opW (cvInt .i64 t22 H18) fun t23 H20 =>
wCall P n_code_Reader_Fixed [t17, (.int .i64 8)] H20 fun t25 H22 =>
wCall P n_code_Reader_Fixed [t17, (.int .i64 4)] H22 fun t27 H24 =>
opW (cvInt .i64 t27 H24) fun t28 H26 =>
opP ((buildC P 34).f [(0, t20), (1, t23), (2, t25), (3, t28)]) fun t29 =>
wNew (zc P 34) H26 fun t7 H29 =>
opW (storeTo 36 t7 t29 H29) fun u_1 H31 =>
opP (offPtr 4 t7) fun t30 =>
opP (sliceArr 32 1 t30 none none none H31) fun t31 =>
wCall P n_code_Reader_Raw [t17, (.int .i64 32)] H31 fun t33 H35 =>
cSame (sameB H31 H35) (idsOf [t30]) ∧ (opW (copyTo 1 t31 t33 H35) fun t34 H37 =>
opW (loadAgg 36 t7 H37) fun t35 H39 =>
wCall P n_slot_Right [t35] H39 fun t36 H41 =>
opP (unA .not t36) fun t37 =>
wIf t37 (
opP ((buildC P 34).f []) fun t38 =>
opW (storeTo 36 t2 t38 H41) fun u_2 H45 =>
opW (loadAgg 36 t2 H45) fun r_1 _ =>
K (.tuple [r_1, (.int .i64 101)].toArray) H45) (
opW (loadAgg 36 t7 H41) fun t39 H48 =>
opW (storeTo 36 t2 t39 H48) fun u_3 H50 =>
opW (loadAgg 36 t2 H50) fun r_2 _ =>
K (.tuple [r_2, (.int .i64 0)].toArray) H50)))
theorem slot_Read_eq (t0 : Value) (H : Heap) (K : Value → Heap → Prop) : vcF P n_slot_Read [t0] H K = slot_Read t0 H K := by kernel_rfl
theorem slot_Read_ok {t0 : Value} {H : Heap} {K : Value → Heap → Prop} (h : slot_Read t0 H K) : wCall P n_slot_Read [t0] H K := wCall_of_vcF rfl ((slot_Read_eq t0 H K).mpr h)
noncomputable abbrev code_Reader_Fixed_RP0 : List Tmp × Code × Code := rangeAt P n_code_Reader_Fixed 0
def code_Reader_Fixed_R0 (vals args : List Value) (l : Nat) (H : Heap) (K : Value → Heap → Prop) : Prop :=
wBegin l H fun H0 =>
opW (loadOne (nth vals 0) H0) fun t15 H2 =>
opP ((binC P .shl 30 true).f t15 (.int .u64 8)) fun t16 =>
opW (cvInt .u64 (nth args 1) H2) fun t18 H5 =>
opP ((binC P .or 30 false).f t16 t18) fun t19 =>
opW (storeTo 1 (nth vals 0) t19 H5) fun u H8 =>
wEnd l .normal H8 K
theorem code_Reader_Fixed_R0_eq (vals args : List Value) (l : Nat) (H : Heap) (K : Value → Heap → Prop) : vcRound P 21 code_Reader_Fixed_RP0.1 code_Reader_Fixed_RP0.2.1 code_Reader_Fixed_RP0.2.2 vals args l H K = code_Reader_Fixed_R0 vals args l H K := by kernel_rfl
def code_Reader_Fixed (t0 t1 : Value) (H : Heap) (K : Value → Heap → Prop) : Prop :=
wNew (zc P 30) H fun t5 H1 =>
opW (storeTo 1 t5 (.int .u64 0) H1) fun u H3 =>
wCall P n_code_within [t1] H3 fun t10 H5 =>
wCall P n_code_Reader_take [t0, t10] H5 fun t11 H7 =>
wCall P n_slices_Backward_byte_byte [t11] H7 fun t12 H9 =>
wRange P 21 code_Reader_Fixed_RP0.1 code_Reader_Fixed_RP0.2.1 code_Reader_Fixed_RP0.2.2 [t5, undef] t12 H9 (fun H10 =>
opW (loadOne t5 H10) fun t20 H12 =>
K t20 H12) (fun id H10 =>
cond (Nat.beq id 0) (
opW (loadOne t5 H10) fun t20_1 H14 =>
K t20_1 H14) (
False)) (fun H10 =>
K (.int .u64 0) H10)
theorem code_Reader_Fixed_eq (t0 t1 : Value) (H : Heap) (K : Value → Heap → Prop) : vcF P n_code_Reader_Fixed [t0, t1] H K = code_Reader_Fixed t0 t1 H K := by kernel_rfl
theorem code_Reader_Fixed_ok {t0 t1 : Value} {H : Heap} {K : Value → Heap → Prop} (h : code_Reader_Fixed t0 t1 H K) : wCall P n_code_Reader_Fixed [t0, t1] H K := wCall_of_vcF rfl ((code_Reader_Fixed_eq t0 t1 H K).mpr h)
def code_Reader_End (t0 : Value) (H : Heap) (K : Value → Heap → Prop) : Prop :=
opP (nilCheckA t0) fun t4 =>
opP (offPtr 1 t4) fun t5 =>
opW (loadOne t5 H) fun t6 H3 =>
opP ((binC P .eql 24 true).f t6 (.int .i64 0)) fun t7 =>
wIf t7 (
opP (nilCheckA t0) fun t10 =>
opP (offPtr 0 t10) fun t11 =>
opW (loadOne t11 H3) fun t12 H8 =>
opW (lenSl t12 H8) fun t13 H10 =>
opP ((binC P .gtr 3 true).f t13 (.int .i64 0)) fun t14 =>
opP (pickA t7 t14 (.bool false)) fun t15 =>
wIf t15 (
K (.int .i64 52) H10) (
opP (nilCheckA t0) fun t17 =>
opP (offPtr 1 t17) fun t18 =>
opW (loadOne t18 H10) fun t19 H16 =>
K t19 H16)) (
opP (pickA t7 undef (.bool false)) fun t15_1 =>
wIf t15_1 (
K (.int .i64 52) H3) (
opP (nilCheckA t0) fun t17_1 =>
opP (offPtr 1 t17_1) fun t18_1 =>
opW (loadOne t18_1 H3) fun t19_1 H21 =>
K t19_1 H21))
theorem code_Reader_End_eq (t0 : Value) (H : Heap) (K : Value → Heap → Prop) : vcF P n_code_Reader_End [t0] H K = code_Reader_End t0 H K := by kernel_rfl
theorem code_Reader_End_ok {t0 : Value} {H : Heap} {K : Value → Heap → Prop} (h : code_Reader_End t0 H K) : wCall P n_code_Reader_End [t0] H K := wCall_of_vcF rfl ((code_Reader_End_eq t0 H K).mpr h)
def table_change (t0 : Value) (H : Heap) (K : Value → Heap → Prop) : Prop :=
wNew (zc P 41) H fun t2 H1 =>
wCall P n_code_Reader_Fixed [t0, (.int .i64 1)] H1 fun t8 H3 =>
opW (cvInt .i64 t8 H3) fun t9 H5 =>
opP ((buildC P 41).f [(0, t9)]) fun t10 =>
wNew (zc P 41) H5 fun t4 H8 =>
opW (storeTo 40 t4 t10 H8) fun u H10 =>
wJoin (fun J =>
opP (offPtr 0 t4) fun t11 =>
opW (loadOne t11 H10) fun t12 H14 =>
opP ((binC P .eql 3 true).f t12 (.int .i64 1)) fun t14 =>
wIf t14 (
wCall P n_code_Reader_Fixed [t0, (.int .i64 1)] H14 fun t16 H17 =>
opW (cvInt .i64 t16 H17) fun t17 H19 =>
opP (offPtr 1 t4) fun t18 =>
opW (storeTo 1 t18 t17 H19) fun u_1 H22 =>
wCall P n_slot_Read [t0] H22 fun t21 H24 =>
opP (extA 0 t21) fun t22 =>
opP (extA 1 t21) fun t23 =>
wNew (zc P 34) H24 fun t5 H28 =>
opW (storeTo 36 t5 t22 H28) fun u_2 H30 =>
opP ((binC P .neq 24 true).f t23 (.int .i64 0)) fun t25 =>
wIf t25 (
opP ((buildC P 41).f []) fun t26 =>
opW (storeTo 40 t2 t26 H30) fun u_3 H34 =>
opW (loadAgg 40 t2 H34) fun r _ =>
K (.tuple [r, (.int .i64 111)].toArray) H34) (
opW (loadAgg 36 t5 H30) fun t27 H37 =>
opP (offPtr 3 t4) fun t28 =>
opW (storeTo 36 t28 t27 H37) fun u_4 H40 =>
J [t0, t2, t4] H40)) (
opP ((binC P .eql 3 true).f t12 (.int .i64 2)) fun t30 =>
wIf t30 (
wCall P n_code_Reader_Fixed [t0, (.int .i64 1)] H14 fun t32 H43 =>
opW (cvInt .i64 t32 H43) fun t33 H45 =>
opP (offPtr 2 t4) fun t34 =>
opW (storeTo 1 t34 t33 H45) fun u_5 H48 =>
J [t0, t2, t4] H48) (
opP ((binC P .eql 3 true).f t12 (.int .i64 3)) fun t36 =>
wIf t36 (
wCall P n_code_Reader_Fixed [t0, (.int .i64 1)] H14 fun t38 H51 =>
opW (cvInt .i64 t38 H51) fun t39 H53 =>
opP ((binC P .add 3 true).f t39 (.int .i64 (-1))) fun t40 =>
opP (offPtr 2 t4) fun t41 =>
opW (storeTo 1 t41 t40 H53) fun u_6 H57 =>
J [t0, t2, t4] H57) (
opP ((binC P .eql 3 true).f t12 (.int .i64 4)) fun t43 =>
wIf t43 (
wCall P n_code_Reader_Fixed [t0, (.int .i64 8)] H14 fun t45 H60 =>
opP (offPtr 39 t4) fun t46 =>
opW (storeTo 1 t46 t45 H60) fun u_7 H63 =>
J [t0, t2, t4] H63) (
J [t0, t2, t4] H14))))) (fun l H65 =>
wJoin (fun J_1 =>
wCall P n_code_Reader_Err [(nth l 0)] H65 fun t48 H68 =>
opP ((binC P .neq 24 true).f t48 (.int .i64 0)) fun t49 =>
wIf t49 (
opP (pickA t49 (.bool true) undef) fun t54 =>
J_1 [(nth l 1), (nth l 2), t54] H68) (
opW (loadAgg 40 (nth l 2) H68) fun t51 H72 =>
wCall P n_table_right [t51] H72 fun t52 H74 =>
opP (unA .not t52) fun t53 =>
opP (pickA t49 (.bool true) t53) fun t54_1 =>
J_1 [(nth l 1), (nth l 2), t54_1] H74)) (fun l_1 H78 =>
wIf (nth l_1 2) (
opP ((buildC P 41).f []) fun t55 =>
opW (storeTo 40 (nth l_1 0) t55 H78) fun u_8 H81 =>
opW (loadAgg 40 (nth l_1 0) H81) fun r_1 _ =>
K (.tuple [r_1, (.int .i64 111)].toArray) H81) (
opW (loadAgg 40 (nth l_1 1) H78) fun t56 H84 =>
opW (storeTo 40 (nth l_1 0) t56 H84) fun u_9 H86 =>
opW (loadAgg 40 (nth l_1 0) H86) fun r_2 _ =>
K (.tuple [r_2, (.int .i64 0)].toArray) H86)))
theorem table_change_eq (t0 : Value) (H : Heap) (K : Value → Heap → Prop) : vcF P n_table_change [t0] H K = table_change t0 H K := by kernel_rfl
theorem table_change_ok {t0 : Value} {H : Heap} {K : Value → Heap → Prop} (h : table_change t0 H K) : wCall P n_table_change [t0] H K := wCall_of_vcF rfl ((table_change_eq t0 H K).mpr h)
def code_Raw (t0 t1 : Value) (H : Heap) (K : Value → Heap → Prop) : Prop :=
wCall P n_slices_Concat_byte_byte [t1] H fun t7 H1 =>
opW ((buildSliceC P 65 2).f [(0, t0), (1, t7)] H1) fun t8 H3 =>
wCall P n_slices_Concat_byte_byte [t8] H3 fun t9 H5 =>
K t9 H5
theorem code_Raw_eq (t0 t1 : Value) (H : Heap) (K : Value → Heap → Prop) : vcF P n_code_Raw [t0, t1] H K = code_Raw t0 t1 H K := by kernel_rfl
theorem code_Raw_ok {t0 t1 : Value} {H : Heap} {K : Value → Heap → Prop} (h : code_Raw t0 t1 H K) : wCall P n_code_Raw [t0, t1] H K := wCall_of_vcF rfl ((code_Raw_eq t0 t1 H K).mpr h)
def slot_Bytes (t0 : Value) (H : Heap) (K : Value → Heap → Prop) : Prop :=
wNew (cellsL t0) H fun t1 H1 =>
opW (loadAgg 36 t1 H1) fun t4 H3 =>
wCall P n_slot_Right [t4] H3 fun t5 H5 =>
opP (unA .not t5) fun t6 =>
wIf t6 (
K (.slice none 0 0) H5) (
opP (offPtr 0 t1) fun t7 =>
opW (loadOne t7 H5) fun t8 H9 =>
opW (cvInt .u64 t8 H9) fun t9 H11 =>
wCall P n_code_Fixed [(.slice none 0 0), t9, (.int .i64 1)] H11 fun t10 H13 =>
opP (offPtr 1 t1) fun t11 =>
opW (loadOne t11 H13) fun t12 H16 =>
cSame (sameB H11 H13) (idsOf [t11]) ∧ (opW (cvInt .u64 t12 H16) fun t13 H18 =>
wCall P n_code_Fixed [t10, t13, (.int .i64 1)] H18 fun t14 H20 =>
opP (offPtr 2 t1) fun t16 =>
opW (loadOne t16 H20) fun t17 H23 =>
wCall P n_code_Fixed [t14, t17, (.int .i64 8)] H23 fun t18 H25 =>
opP (offPtr 3 t1) fun t19 =>
opW (loadOne t19 H25) fun t20 H28 =>
cSame (sameB H23 H25) (idsOf [t19]) ∧ (opW (cvInt .u64 t20 H28) fun t21 H30 =>
wCall P n_code_Fixed [t18, t21, (.int .i64 4)] H30 fun t22 H32 =>
opP (offPtr 4 t1) fun t24 =>
opP (sliceArr 32 1 t24 none none none H32) fun t25 =>
opW ((buildSliceC P 65 1).f [(0, t25)] H32) fun t26 H36 =>
wCall P n_code_Raw [t22, t26] H36 fun t27 H38 =>
K t27 H38)))
theorem slot_Bytes_eq (t0 : Value) (H : Heap) (K : Value → Heap → Prop) : vcF P n_slot_Bytes [t0] H K = slot_Bytes t0 H K := by kernel_rfl
theorem slot_Bytes_ok {t0 : Value} {H : Heap} {K : Value → Heap → Prop} (h : slot_Bytes t0 H K) : wCall P n_slot_Bytes [t0] H K := wCall_of_vcF rfl ((slot_Bytes_eq t0 H K).mpr h)
noncomputable abbrev code_Fixed_P0 : Code := loopAt P n_code_Fixed 0
def code_Fixed_L0 (l : List Value) (H : Heap) (N : List Value → Heap → Prop) (Qx : Nat → List Value → Heap → Prop) (Qr : List Value → Heap → Prop) : Prop :=
opP ((binC P .lss 3 false).f (nth l 4) (nth l 3)) fun t13 =>
wIf t13 (
opW (cvInt .u8 (nth l 0) H) fun t16 H2 =>
opW ((buildSliceC P 46 1).f [(0, t16)] H2) fun t17 H4 =>
opW (appendWith 1 1 (nth l 2) t17 H4) fun t18 H6 =>
opP ((binC P .shr 30 true).f (nth l 0) (.int .u64 8)) fun t20 =>
opP ((binC P .add 3 true).f (nth l 4) (.int .i64 1)) fun t21 =>
N [t20, (nth l 1), t18, (nth l 3), t21] H6) (
Qx 0 [(nth l 1), (nth l 2)] H)
theorem code_Fixed_L0_eq (l : List Value) (H : Heap) (N : List Value → Heap → Prop) (Qx : Nat → List Value → Heap → Prop) (Qr : List Value → Heap → Prop) : vcC P true 23 code_Fixed_P0 (live code_Fixed_P0 0 192) 192 (envOf (bits 23 (live code_Fixed_P0 0 192)) l) H (loopQ 23 code_Fixed_P0 192 N Qx Qr) = code_Fixed_L0 l H N Qx Qr := by kernel_rfl
theorem code_Fixed_L0_ind (I : Nat → List Value → Heap → Prop) (Qx : Nat → List Value → Heap → Prop) (Qr : List Value → Heap → Prop) (hs : ∀ k l H, I k l H → code_Fixed_L0 l H (fun l H => ∃ k', k' < k ∧ I k' l H) Qx Qr) (k : Nat) (l : List Value) (H : Heap) (h : I k l H) : wLoop P true 23 code_Fixed_P0 192 l H Qx Qr :=
  loop_ind (by kernel_rfl) I (fun k l H h => (code_Fixed_L0_eq l H _ Qx Qr).mpr (hs k l H h)) k l H h
def code_Fixed (t0 t1 t2 : Value) (H : Heap) (K : Value → Heap → Prop) : Prop :=
wCall P n_slices_Clone_byte_byte [t0] H fun t9 H1 =>
wCall P n_code_within [t2] H1 fun t11 H3 =>
wLoop P true 23 code_Fixed_P0 192 [t1, (.slice none 0 0), t9, t11, (.int .i64 0)] H3 (fun id l H5 =>
cond (Nat.beq id 0) (
K (nth l 1) H5) (
False)) (fun l H5 =>
K (nth l 0) H5)
theorem code_Fixed_eq (t0 t1 t2 : Value) (H : Heap) (K : Value → Heap → Prop) : vcF P n_code_Fixed [t0, t1, t2] H K = code_Fixed t0 t1 t2 H K := by kernel_rfl
theorem code_Fixed_ok {t0 t1 t2 : Value} {H : Heap} {K : Value → Heap → Prop} (h : code_Fixed t0 t1 t2 H K) : wCall P n_code_Fixed [t0, t1, t2] H K := wCall_of_vcF rfl ((code_Fixed_eq t0 t1 t2 H K).mpr h)
def slot_Right (t0 : Value) (H : Heap) (K : Value → Heap → Prop) : Prop :=
wNew (cellsL t0) H fun t1 H1 =>
wJoin (fun J =>
opP (offPtr 0 t1) fun t3 =>
opW (loadOne t3 H1) fun t4 H5 =>
wJoin (fun J_1 =>
opP ((binC P .eql 3 true).f t4 (.int .i64 0)) fun t6 =>
wIf t6 (
J_1 [t1, t4, t6] H5) (
opP ((binC P .eql 3 true).f t4 (.int .i64 1)) fun t7 =>
wIf t7 (
J_1 [t1, t4, t7] H5) (
opP ((binC P .eql 3 true).f t4 (.int .i64 4)) fun t8 =>
J_1 [t1, t4, t8] H5))) (fun l H11 =>
wIf (nth l 2) (
opW (loadAgg 36 (nth l 0) H11) fun t9 H13 =>
opP (offPtr 0 (nth l 0)) fun t10 =>
opW (loadOne t10 H13) fun t11 H16 =>
opP ((buildC P 34).f [(0, t11)]) fun t12 =>
opP ((binC P .eql 34 false).f t9 t12) fun t13 =>
K t13 H16) (
opP ((binC P .eql 3 true).f (nth l 1) (.int .i64 2)) fun t15 =>
wIf t15 (
opP (offPtr 1 (nth l 0)) fun t16 =>
opW (loadOne t16 H11) fun t17 H22 =>
opP ((binC P .lss 3 true).f t17 (.int .i64 0)) fun t18 =>
wIf t18 (
opP (pickA t18 (.bool true) undef) fun t23 =>
wIf t23 (
K (.bool false) H22) (
J [(nth l 0)] H22)) (
opP (offPtr 1 (nth l 0)) fun t20 =>
opW (loadOne t20 H22) fun t21 H27 =>
opP ((binC P .gtr 3 true).f t21 (.int .i64 7)) fun t22 =>
opP (pickA t18 (.bool true) t22) fun t23_1 =>
wIf t23_1 (
K (.bool false) H27) (
J [(nth l 0)] H27))) (
opP ((binC P .eql 3 true).f (nth l 1) (.int .i64 3)) fun t25 =>
wIf t25 (
opP (offPtr 1 (nth l 0)) fun t26 =>
opW (loadOne t26 H11) fun t27 H33 =>
opP ((binC P .neq 3 true).f t27 (.int .i64 0)) fun t28 =>
wIf t28 (
K (.bool false) H33) (
J [(nth l 0)] H33)) (
K (.bool false) H11))))) (fun l_1 H36 =>
opP (offPtr 2 (nth l_1 0)) fun t29 =>
opW (loadOne t29 H36) fun t30 H39 =>
opP ((binC P .geq 30 true).f t30 (.int .u64 1)) fun t31 =>
wIf t31 (
opP (offPtr 2 (nth l_1 0)) fun t33 =>
opW (loadOne t33 H39) fun t34 H43 =>
opP ((binC P .leq 30 true).f t34 (.int .u64 281474976710656)) fun t35 =>
opP (pickA t31 t35 (.bool false)) fun t36 =>
wIf t36 (
opP (offPtr 3 (nth l_1 0)) fun t38 =>
opW (loadOne t38 H43) fun t39 H48 =>
opP ((binC P .geq 3 true).f t39 (.int .i64 1)) fun t40 =>
opP (pickA t36 t40 (.bool false)) fun t41 =>
wIf t41 (
opP (offPtr 3 (nth l_1 0)) fun t43 =>
opW (loadOne t43 H48) fun t44 H53 =>
opP ((binC P .leq 3 true).f t44 (.int .i64 65536)) fun t45 =>
opP (pickA t41 t45 (.bool false)) fun t46 =>
K t46 H53) (
opP (pickA t41 undef (.bool false)) fun t46_1 =>
K t46_1 H48)) (
opP (pickA t36 undef (.bool false)) fun t41_1 =>
opP (pickA t41_1 undef (.bool false)) fun t46_2 =>
K t46_2 H43)) (
opP (pickA t31 undef (.bool false)) fun t36_1 =>
opP (pickA t36_1 undef (.bool false)) fun t41_2 =>
opP (pickA t41_2 undef (.bool false)) fun t46_3 =>
K t46_3 H39))
theorem slot_Right_eq (t0 : Value) (H : Heap) (K : Value → Heap → Prop) : vcF P n_slot_Right [t0] H K = slot_Right t0 H K := by kernel_rfl
theorem slot_Right_ok {t0 : Value} {H : Heap} {K : Value → Heap → Prop} (h : slot_Right t0 H K) : wCall P n_slot_Right [t0] H K := wCall_of_vcF rfl ((slot_Right_eq t0 H K).mpr h)
def table_index (t0 : Value) (H : Heap) (K : Value → Heap → Prop) : Prop :=
opP ((binC P .eql 3 true).f t0 (.int .i64 0)) fun t4 =>
wIf t4 (
opP (pickA t4 (.bool true) undef) fun t8 =>
K t8 H) (
opP ((binC P .eql 3 true).f t0 (.int .i64 1)) fun t7 =>
opP (pickA t4 (.bool true) t7) fun t8_1 =>
K t8_1 H)
theorem table_index_eq (t0 : Value) (H : Heap) (K : Value → Heap → Prop) : vcF P n_table_index [t0] H K = table_index t0 H K := by kernel_rfl
theorem table_index_ok {t0 : Value} {H : Heap} {K : Value → Heap → Prop} (h : table_index t0 H K) : wCall P n_table_index [t0] H K := wCall_of_vcF rfl ((table_index_eq t0 H K).mpr h)
def table_Store_keep (t0 t1 t2 : Value) (H : Heap) (K : Value → Heap → Prop) : Prop :=
wNew (cellsL t1) H fun t4 H1 =>
wJoin (fun J =>
opP (nilCheckA t0) fun t9 =>
opP (offPtr 0 t9) fun t10 =>
opW (loadOne t10 H1) fun t11 H6 =>
wCall P n_journal_Journal_Ready [t11] H6 fun t12 H8 =>
wIf t12 (
opP (nilCheckA t0) fun t14 =>
opP (offPtr 0 t14) fun t15 =>
opW (loadOne t15 H8) fun t16 H12 =>
wCall P n_table_Put [t2] H12 fun t18 H14 =>
cSame (sameB H12 H14) (idsOf [t15]) ∧ (wCall P n_journal_Journal_Append [t16, t18] H14 fun t19 H16 =>
opP ((binC P .neq 24 true).f t19 (.int .i64 92)) fun t21 =>
wIf t21 (
K t19 H16) (
J [t0, t4] H16))) (
J [t0, t4] H8)) (fun l H19 =>
opP (nilCheckA (nth l 0)) fun t24 =>
opP (offPtr 0 t24) fun t25 =>
opW (loadOne t25 H19) fun t26 H23 =>
opW (loadAgg 75 (nth l 1) H23) fun t27 H25 =>
wCall P n_table_Bytes [t27] H25 fun t28 H27 =>
cSame (sameB H25 H27) (idsOf [t25]) ∧ (wCall P n_journal_Journal_Begin [t26, t28] H27 fun t29 H29 =>
K t29 H29))
theorem table_Store_keep_eq (t0 t1 t2 : Value) (H : Heap) (K : Value → Heap → Prop) : vcF P n_table_Store_keep [t0, t1, t2] H K = table_Store_keep t0 t1 t2 H K := by kernel_rfl
theorem table_Store_keep_ok {t0 t1 t2 : Value} {H : Heap} {K : Value → Heap → Prop} (h : table_Store_keep t0 t1 t2 H K) : wCall P n_table_Store_keep [t0, t1, t2] H K := wCall_of_vcF rfl ((table_Store_keep_eq t0 t1 t2 H K).mpr h)
def journal_Journal_Left (t0 : Value) (H : Heap) (K : Value → Heap → Prop) : Prop :=
opP (nilCheckA t0) fun t4 =>
opP (offPtr 6 t4) fun t5 =>
opW (loadOne t5 H) fun t6 H3 =>
opP (unA .not t6) fun t7 =>
wIf t7 (
K (.int .i64 0) H3) (
opP (nilCheckA t0) fun t9 =>
opP (offPtr 0 t9) fun t10 =>
opW (loadOne t10 H3) fun t11 H8 =>
opP (nilCheckA t0) fun t14 =>
opP (offPtr 3 t14) fun t15 =>
opW (loadOne t15 H8) fun t16 H12 =>
opP (nilCheckA t0) fun t17 =>
opP (offPtr 1 t17) fun t18 =>
opP (idxPtr 2 1 t18 t16) fun t19 =>
opW (loadOne t19 H12) fun t20 H17 =>
wCall P n_part_Map_Size [t11, t20] H17 fun t21 H19 =>
opP (nilCheckA t0) fun t23 =>
opP (offPtr 5 t23) fun t24 =>
opW (loadOne t24 H19) fun t25 H23 =>
cSame (sameB H17 H19) (idsOf [t24]) ∧ (opP ((binC P .sub 3 false).f t21 t25) fun t26 =>
K t26 H23))
theorem journal_Journal_Left_eq (t0 : Value) (H : Heap) (K : Value → Heap → Prop) : vcF P n_journal_Journal_Left [t0] H K = journal_Journal_Left t0 H K := by kernel_rfl
theorem journal_Journal_Left_ok {t0 : Value} {H : Heap} {K : Value → Heap → Prop} (h : journal_Journal_Left t0 H K) : wCall P n_journal_Journal_Left [t0] H K := wCall_of_vcF rfl ((journal_Journal_Left_eq t0 H K).mpr h)
noncomputable abbrev journal_stands_P0 : Code := loopAt P n_journal_stands 0
def journal_stands_L0 (l : List Value) (H : Heap) (N : List Value → Heap → Prop) (Qx : Nat → List Value → Heap → Prop) (Qr : List Value → Heap → Prop) : Prop :=
wCall P n_frame_Get [(nth l 2)] H fun t17 H1 =>
opP (extA 0 t17) fun t18 =>
opP (extA 1 t17) fun t19 =>
opP (extA 2 t17) fun t20 =>
opP (extA 3 t17) fun t21 =>
wJoin (fun J =>
opP ((binC P .eql 3 true).f t21 (.int .i64 0)) fun t23 =>
wIf t23 (
opP (pickA t23 (.bool true) undef) fun t28 =>
opP (pickA t28 (.bool true) undef) fun t43 =>
J [(nth l 0), (nth l 1), (nth l 2), (nth l 3), t19, t20, t21, t43] H1) (
opP ((binC P .neq 5 false).f t18 (nth l 3)) fun t27 =>
opP (pickA t23 (.bool true) t27) fun t28_1 =>
wIf t28_1 (
opP (pickA t28_1 (.bool true) undef) fun t43_1 =>
J [(nth l 0), (nth l 1), (nth l 2), (nth l 3), t19, t20, t21, t43_1] H1) (
opP ((binC P .eql 5 true).f (nth l 3) (.int .u8 2)) fun t31 =>
wIf t31 (
opP ((binC P .eql 30 true).f t19 (.int .u64 0)) fun t34 =>
wIf t34 (
opP (pickA t34 (.bool true) undef) fun t41 =>
opP (pickA t31 t41 (.bool false)) fun t42 =>
opP (pickA t28_1 (.bool true) t42) fun t43_2 =>
J [(nth l 0), (nth l 1), (nth l 2), (nth l 3), t19, t20, t21, t43_2] H1) (
opP ((binC P .sub 30 true).f t19 (.int .u64 1)) fun t37 =>
opP (offPtr 2 (nth l 1)) fun t38 =>
opW (loadOne t38 H1) fun t39 H21 =>
opP ((binC P .neq 30 false).f t37 t39) fun t40 =>
opP (pickA t34 (.bool true) t40) fun t41_1 =>
opP (pickA t31 t41_1 (.bool false)) fun t42_1 =>
opP (pickA t28_1 (.bool true) t42_1) fun t43_3 =>
J [(nth l 0), (nth l 1), (nth l 2), (nth l 3), t19, t20, t21, t43_3] H21)) (
opP (pickA t31 undef (.bool false)) fun t42_2 =>
opP (pickA t28_1 (.bool true) t42_2) fun t43_4 =>
J [(nth l 0), (nth l 1), (nth l 2), (nth l 3), t19, t20, t21, t43_4] H1)))) (fun l_1 H29 =>
wIf (nth l_1 7) (
opW (loadAgg 3 (nth l_1 1) H29) fun t44 H31 =>
opW (storeTo 3 (nth l_1 0) t44 H31) fun u H33 =>
Qr [(nth l_1 0)] H33) (
wJoin (fun J_1 =>
opP ((binC P .eql 5 true).f (nth l_1 3) (.int .u8 1)) fun t46 =>
wIf t46 (
opP (offPtr 1 (nth l_1 1)) fun t48 =>
opW (storeTo 1 t48 (nth l_1 4) H29) fun u_1 H38 =>
J_1 [(nth l_1 0), (nth l_1 1), (nth l_1 2), (nth l_1 4), (nth l_1 5), (nth l_1 6)] H38) (
J_1 [(nth l_1 0), (nth l_1 1), (nth l_1 2), (nth l_1 4), (nth l_1 5), (nth l_1 6)] H29)) (fun l_2 H40 =>
opP (offPtr 2 (nth l_2 1)) fun t50 =>
opW (storeTo 1 t50 (nth l_2 3) H40) fun u_2 H43 =>
opP (offPtr 0 (nth l_2 1)) fun t51 =>
opW (loadOne t51 H43) fun t52 H46 =>
opW ((buildSliceC P 65 1).f [(0, (nth l_2 4))] H46) fun t54 H48 =>
opW (appendWith 1 24 t52 t54 H48) fun t55 H50 =>
opP (offPtr 0 (nth l_2 1)) fun t56 =>
opW (storeTo 1 t56 t55 H50) fun u_3 H53 =>
opP (sliceSl 64 (nth l_2 2) (some (nth l_2 5)) none none) fun t59 =>
N [(nth l_2 0), (nth l_2 1), t59, (.int .u8 2)] H53)))
theorem journal_stands_L0_eq (l : List Value) (H : Heap) (N : List Value → Heap → Prop) (Qx : Nat → List Value → Heap → Prop) (Qr : List Value → Heap → Prop) : vcC P true 60 journal_stands_P0 (live journal_stands_P0 0 16) 16 (envOf (bits 60 (live journal_stands_P0 0 16)) l) H (loopQ 60 journal_stands_P0 16 N Qx Qr) = journal_stands_L0 l H N Qx Qr := by kernel_rfl
theorem journal_stands_L0_ind (I : Nat → List Value → Heap → Prop) (Qx : Nat → List Value → Heap → Prop) (Qr : List Value → Heap → Prop) (hs : ∀ k l H, I k l H → journal_stands_L0 l H (fun l H => ∃ k', k' < k ∧ I k' l H) Qx Qr) (k : Nat) (l : List Value) (H : Heap) (h : I k l H) : wLoop P true 60 journal_stands_P0 16 l H Qx Qr :=
  loop_ind (by kernel_rfl) I (fun k l H h => (journal_stands_L0_eq l H _ Qx Qr).mpr (hs k l H h)) k l H h
def journal_stands (t0 t1 : Value) (H : Heap) (K : Value → Heap → Prop) : Prop :=
wNew (zc P 110) H fun t4 H1 =>
wNew (zc P 110) H1 fun t5 H3 =>
wCall P n_journal_sectors [t0, t1] H3 fun t14 H5 =>
wLoop P true 60 journal_stands_P0 16 [t4, t5, t14, (.int .u8 1)] H5 (fun id l H7 =>
cond (Nat.beq id 0) (
opW (loadAgg 3 (nth l 0) H7) fun r _ =>
K r H7) (
False)) (fun l H7 =>
opW (loadAgg 3 (nth l 0) H7) fun r_1 _ =>
K r_1 H7)
theorem journal_stands_eq (t0 t1 : Value) (H : Heap) (K : Value → Heap → Prop) : vcF P n_journal_stands [t0, t1] H K = journal_stands t0 t1 H K := by kernel_rfl
theorem journal_stands_ok {t0 t1 : Value} {H : Heap} {K : Value → Heap → Prop} (h : journal_stands t0 t1 H K) : wCall P n_journal_stands [t0, t1] H K := wCall_of_vcF rfl ((journal_stands_eq t0 t1 H K).mpr h)
def flash_Device_Size (t0 : Value) (H : Heap) (K : Value → Heap → Prop) : Prop :=
opP (nilCheckA t0) fun t4 =>
opP (offPtr 0 t4) fun t5 =>
opW (loadOne t5 H) fun t6 H3 =>
opW (lenSl t6 H3) fun t7 H5 =>
K t7 H5
theorem flash_Device_Size_eq (t0 : Value) (H : Heap) (K : Value → Heap → Prop) : vcF P n_flash_Device_Size [t0] H K = flash_Device_Size t0 H K := by kernel_rfl
theorem flash_Device_Size_ok {t0 : Value} {H : Heap} {K : Value → Heap → Prop} (h : flash_Device_Size t0 H K) : wCall P n_flash_Device_Size [t0] H K := wCall_of_vcF rfl ((flash_Device_Size_eq t0 H K).mpr h)
noncomputable abbrev flash_Blank_P0 : Code := loopAt P n_flash_Blank 0
def flash_Blank_L0 (l : List Value) (H : Heap) (N : List Value → Heap → Prop) (Qx : Nat → List Value → Heap → Prop) (Qr : List Value → Heap → Prop) : Prop :=
opP ((binC P .lss 3 true).f (nth l 2) (.int .i64 64)) fun t4 =>
wIf t4 (
opP (idxPtr 64 1 (nth l 1) (nth l 2)) fun t7 =>
opW (storeTo 1 t7 (.int .u8 255) H) fun u H3 =>
opP ((binC P .add 3 true).f (nth l 2) (.int .i64 1)) fun t8 =>
N [(nth l 0), (nth l 1), t8] H3) (
Qx 0 [(nth l 0), (nth l 1)] H)
theorem flash_Blank_L0_eq (l : List Value) (H : Heap) (N : List Value → Heap → Prop) (Qx : Nat → List Value → Heap → Prop) (Qr : List Value → Heap → Prop) : vcC P true 10 flash_Blank_P0 (live flash_Blank_P0 0 3) 3 (envOf (bits 10 (live flash_Blank_P0 0 3)) l) H (loopQ 10 flash_Blank_P0 3 N Qx Qr) = flash_Blank_L0 l H N Qx Qr := by kernel_rfl
theorem flash_Blank_L0_ind (I : Nat → List Value → Heap → Prop) (Qx : Nat → List Value → Heap → Prop) (Qr : List Value → Heap → Prop) (hs : ∀ k l H, I k l H → flash_Blank_L0 l H (fun l H => ∃ k', k' < k ∧ I k' l H) Qx Qr) (k : Nat) (l : List Value) (H : Heap) (h : I k l H) : wLoop P true 10 flash_Blank_P0 3 l H Qx Qr :=
  loop_ind (by kernel_rfl) I (fun k l H h => (flash_Blank_L0_eq l H _ Qx Qr).mpr (hs k l H h)) k l H h
def flash_Blank (H : Heap) (K : Value → Heap → Prop) : Prop :=
wNew (zc P 121) H fun t0 H1 =>
wNew (zc P 121) H1 fun t1 H3 =>
wLoop P true 10 flash_Blank_P0 3 [t0, t1, (.int .i64 0)] H3 (fun id l H5 =>
cond (Nat.beq id 0) (
opW (loadAgg 64 (nth l 1) H5) fun t9 H7 =>
opW (storeTo 64 (nth l 0) t9 H7) fun u H9 =>
opW (loadAgg 64 (nth l 0) H9) fun r _ =>
K r H9) (
False)) (fun l H5 =>
opW (loadAgg 64 (nth l 0) H5) fun r_1 _ =>
K r_1 H5)
theorem flash_Blank_eq (H : Heap) (K : Value → Heap → Prop) : vcF P n_flash_Blank [] H K = flash_Blank  H K := by kernel_rfl
theorem flash_Blank_ok {H : Heap} {K : Value → Heap → Prop} (h : flash_Blank  H K) : wCall P n_flash_Blank [] H K := wCall_of_vcF rfl ((flash_Blank_eq  H K).mpr h)
def table_right (t0 : Value) (H : Heap) (K : Value → Heap → Prop) : Prop :=
wNew (cellsL t0) H fun t1 H1 =>
opP (offPtr 0 t1) fun t5 =>
opW (loadOne t5 H1) fun t6 H4 =>
opP ((buildC P 41).f [(0, t6)]) fun t7 =>
wNew (zc P 41) H4 fun t3 H7 =>
opW (storeTo 40 t3 t7 H7) fun u H9 =>
wJoin (fun J =>
opP (offPtr 0 t1) fun t8 =>
opW (loadOne t8 H9) fun t9 H13 =>
opP ((binC P .eql 3 true).f t9 (.int .i64 1)) fun t11 =>
wIf t11 (
opP (offPtr 1 t1) fun t12 =>
opW (loadOne t12 H13) fun t13 H17 =>
opP (offPtr 3 t1) fun t14 =>
opW (loadAgg 36 t14 H17) fun t15 H20 =>
opP (offPtr 1 t3) fun t16 =>
opW (storeTo 1 t16 t13 H20) fun u_1 H23 =>
cApart (idsOf [t14]) (idsOf [t16, t13]) ∧ (opP (offPtr 3 t3) fun t17 =>
opW (storeTo 36 t17 t15 H23) fun u_2 H26 =>
opP (offPtr 1 t1) fun t18 =>
opW (loadOne t18 H26) fun t19 H29 =>
wCall P n_table_index [t19] H29 fun t20 H31 =>
wIf t20 (
opP (offPtr 3 t1) fun t22 =>
opW (loadAgg 36 t22 H31) fun t23 H34 =>
wCall P n_slot_Right [t23] H34 fun t24 H36 =>
opP (pickA t20 t24 (.bool false)) fun t25 =>
J [t1, t3, t25] H36) (
opP (pickA t20 undef (.bool false)) fun t25_1 =>
J [t1, t3, t25_1] H31))) (
opP ((binC P .eql 3 true).f t9 (.int .i64 2)) fun t27 =>
wIf t27 (
opP (offPtr 2 t1) fun t28 =>
opW (loadOne t28 H13) fun t29 H42 =>
opP (offPtr 2 t3) fun t30 =>
opW (storeTo 1 t30 t29 H42) fun u_3 H45 =>
opP (offPtr 2 t1) fun t31 =>
opW (loadOne t31 H45) fun t32 H48 =>
wCall P n_table_index [t32] H48 fun t33 H50 =>
J [t1, t3, t33] H50) (
opP ((binC P .eql 3 true).f t9 (.int .i64 3)) fun t35 =>
wIf t35 (
opP (offPtr 2 t1) fun t36 =>
opW (loadOne t36 H13) fun t37 H54 =>
opP (offPtr 2 t3) fun t38 =>
opW (storeTo 1 t38 t37 H54) fun u_4 H57 =>
opP (offPtr 2 t1) fun t39 =>
opW (loadOne t39 H57) fun t40 H60 =>
opP ((binC P .eql 3 true).f t40 (.int .i64 (-1))) fun t41 =>
wIf t41 (
opP (pickA t41 (.bool true) undef) fun t46 =>
J [t1, t3, t46] H60) (
opP (offPtr 2 t1) fun t43 =>
opW (loadOne t43 H60) fun t44 H65 =>
wCall P n_table_index [t44] H65 fun t45 H67 =>
opP (pickA t41 (.bool true) t45) fun t46_1 =>
J [t1, t3, t46_1] H67)) (
opP ((binC P .eql 3 true).f t9 (.int .i64 4)) fun t48 =>
wIf t48 (
opP (offPtr 39 t1) fun t49 =>
opW (loadOne t49 H13) fun t50 H72 =>
opP (offPtr 39 t3) fun t51 =>
opW (storeTo 1 t51 t50 H72) fun u_5 H75 =>
opP (offPtr 39 t1) fun t52 =>
opW (loadOne t52 H75) fun t53 H78 =>
opP ((binC P .leq 30 true).f t53 (.int .u64 281474976710656)) fun t54 =>
J [t1, t3, t54] H78) (
J [t1, t3, (.bool false)] H13))))) (fun l H81 =>
wIf (nth l 2) (
opW (loadAgg 40 (nth l 1) H81) fun t57 H83 =>
opW (loadAgg 40 (nth l 0) H83) fun t58 H85 =>
opP ((binC P .eql 41 false).f t57 t58) fun t59 =>
opP (pickA (nth l 2) t59 (.bool false)) fun t60 =>
K t60 H85) (
opP (pickA (nth l 2) undef (.bool false)) fun t60_1 =>
K t60_1 H81))
theorem table_right_eq (t0 : Value) (H : Heap) (K : Value → Heap → Prop) : vcF P n_table_right [t0] H K = table_right t0 H K := by kernel_rfl
theorem table_right_ok {t0 : Value} {H : Heap} {K : Value → Heap → Prop} (h : table_right t0 H K) : wCall P n_table_right [t0] H K := wCall_of_vcF rfl ((table_right_eq t0 H K).mpr h)
def code_Reader_Raw (t0 t1 : Value) (H : Heap) (K : Value → Heap → Prop) : Prop :=
wCall P n_code_Reader_take [t0, t1] H fun t7 H1 =>
wCall P n_slices_Clone_byte_byte [t7] H1 fun t8 H3 =>
K t8 H3
theorem code_Reader_Raw_eq (t0 t1 : Value) (H : Heap) (K : Value → Heap → Prop) : vcF P n_code_Reader_Raw [t0, t1] H K = code_Reader_Raw t0 t1 H K := by kernel_rfl
theorem code_Reader_Raw_ok {t0 t1 : Value} {H : Heap} {K : Value → Heap → Prop} (h : code_Reader_Raw t0 t1 H K) : wCall P n_code_Reader_Raw [t0, t1] H K := wCall_of_vcF rfl ((code_Reader_Raw_eq t0 t1 H K).mpr h)
def code_Reader_Err (t0 : Value) (H : Heap) (K : Value → Heap → Prop) : Prop :=
opP (nilCheckA t0) fun t4 =>
opP (offPtr 1 t4) fun t5 =>
opW (loadOne t5 H) fun t6 H3 =>
K t6 H3
theorem code_Reader_Err_eq (t0 : Value) (H : Heap) (K : Value → Heap → Prop) : vcF P n_code_Reader_Err [t0] H K = code_Reader_Err t0 H K := by kernel_rfl
theorem code_Reader_Err_ok {t0 : Value} {H : Heap} {K : Value → Heap → Prop} (h : code_Reader_Err t0 H K) : wCall P n_code_Reader_Err [t0] H K := wCall_of_vcF rfl ((code_Reader_Err_eq t0 H K).mpr h)
def slices_Backward_byte_byte (t0 : Value) (H : Heap) (K : Value → Heap → Prop) : Prop :=
wNew (cellsL t0) H fun t1 H1 =>
K (.func (.func n_slices_Backward_byte_byte_1) [].toArray [t1].toArray) H1
theorem slices_Backward_byte_byte_eq (t0 : Value) (H : Heap) (K : Value → Heap → Prop) : vcF P n_slices_Backward_byte_byte [t0] H K = slices_Backward_byte_byte t0 H K := by kernel_rfl
theorem slices_Backward_byte_byte_ok {t0 : Value} {H : Heap} {K : Value → Heap → Prop} (h : slices_Backward_byte_byte t0 H K) : wCall P n_slices_Backward_byte_byte [t0] H K := wCall_of_vcF rfl ((slices_Backward_byte_byte_eq t0 H K).mpr h)
def code_Reader_take (t0 t1 : Value) (H : Heap) (K : Value → Heap → Prop) : Prop :=
opW (withH H (maxA [t1, (.int .i64 0)])) fun t7 H1 =>
wJoin (fun J =>
opP (nilCheckA t0) fun t9 =>
opP (offPtr 1 t9) fun t10 =>
opW (loadOne t10 H1) fun t11 H6 =>
opP ((binC P .neq 24 true).f t11 (.int .i64 0)) fun t12 =>
wIf t12 (
opP (pickA t12 (.bool true) undef) fun t21 =>
J [t0, t7, t21] H6) (
opP (nilCheckA t0) fun t16 =>
opP (offPtr 0 t16) fun t17 =>
opW (loadOne t17 H6) fun t18 H12 =>
opW (lenSl t18 H12) fun t19 H14 =>
opP ((binC P .gtr 3 false).f t7 t19) fun t20 =>
opP (pickA t12 (.bool true) t20) fun t21_1 =>
J [t0, t7, t21_1] H14)) (fun l H18 =>
wIf (nth l 2) (
wCall P n_code_Reader_fail [(nth l 0), (.int .i64 51)] H18 fun t23 H20 =>
K (.slice none 0 0) H20) (
opP (nilCheckA (nth l 0)) fun t25 =>
opP (offPtr 0 t25) fun t26 =>
opW (loadOne t26 H18) fun t27 H24 =>
opP (sliceSl 1 t27 none (some (nth l 1)) none) fun t29 =>
opP (nilCheckA (nth l 0)) fun t32 =>
opP (offPtr 0 t32) fun t33 =>
opW (loadOne t33 H24) fun t34 H29 =>
opP (sliceSl 1 t34 (some (nth l 1)) none none) fun t36 =>
opP (nilCheckA (nth l 0)) fun t37 =>
opP (offPtr 0 t37) fun t38 =>
opW (storeTo 1 t38 t36 H29) fun u H34 =>
K t29 H34))
theorem code_Reader_take_eq (t0 t1 : Value) (H : Heap) (K : Value → Heap → Prop) : vcF P n_code_Reader_take [t0, t1] H K = code_Reader_take t0 t1 H K := by kernel_rfl
theorem code_Reader_take_ok {t0 t1 : Value} {H : Heap} {K : Value → Heap → Prop} (h : code_Reader_take t0 t1 H K) : wCall P n_code_Reader_take [t0, t1] H K := wCall_of_vcF rfl ((code_Reader_take_eq t0 t1 H K).mpr h)
def code_within (t0 : Value) (H : Heap) (K : Value → Heap → Prop) : Prop :=
opW (withH H (minA [t0, (.int .i64 8)])) fun t4 H1 =>
opW (withH H1 (maxA [(.int .i64 0), t4])) fun t5 H3 =>
K t5 H3
theorem code_within_eq (t0 : Value) (H : Heap) (K : Value → Heap → Prop) : vcF P n_code_within [t0] H K = code_within t0 H K := by kernel_rfl
theorem code_within_ok {t0 : Value} {H : Heap} {K : Value → Heap → Prop} (h : code_within t0 H K) : wCall P n_code_within [t0] H K := wCall_of_vcF rfl ((code_within_eq t0 H K).mpr h)
noncomputable abbrev slices_Concat_byte_byte_P0 : Code := loopAt P n_slices_Concat_byte_byte 0
noncomputable abbrev slices_Concat_byte_byte_P1 : Code := loopAt P n_slices_Concat_byte_byte 1
def slices_Concat_byte_byte_L0 (l : List Value) (H : Heap) (N : List Value → Heap → Prop) (Qx : Nat → List Value → Heap → Prop) (Qr : List Value → Heap → Prop) : Prop :=
opP ((binC P .lss 3 false).f (nth l 5) (nth l 4)) fun t12 =>
wIf t12 (
opP (idxSl 1 (nth l 3) (nth l 5)) fun t13 =>
opW (loadOne t13 H) fun t14 H3 =>
opW (lenSl t14 H3) fun t17 H5 =>
opP ((binC P .add 3 false).f (nth l 2) t17) fun t18 =>
opP ((binC P .lss 3 true).f t18 (.int .i64 0)) fun t20 =>
wIf t20 (
False) (
opP ((binC P .add 3 true).f (nth l 5) (.int .i64 1)) fun t22 =>
N [(nth l 0), (nth l 1), t18, (nth l 3), (nth l 4), t22] H5)) (
Qx 0 [(nth l 0), (nth l 1), (nth l 2)] H)
theorem slices_Concat_byte_byte_L0_eq (l : List Value) (H : Heap) (N : List Value → Heap → Prop) (Qx : Nat → List Value → Heap → Prop) (Qr : List Value → Heap → Prop) : vcC P true 36 slices_Concat_byte_byte_P0 (live slices_Concat_byte_byte_P0 0 13) 13 (envOf (bits 36 (live slices_Concat_byte_byte_P0 0 13)) l) H (loopQ 36 slices_Concat_byte_byte_P0 13 N Qx Qr) = slices_Concat_byte_byte_L0 l H N Qx Qr := by kernel_rfl
theorem slices_Concat_byte_byte_L0_ind (I : Nat → List Value → Heap → Prop) (Qx : Nat → List Value → Heap → Prop) (Qr : List Value → Heap → Prop) (hs : ∀ k l H, I k l H → slices_Concat_byte_byte_L0 l H (fun l H => ∃ k', k' < k ∧ I k' l H) Qx Qr) (k : Nat) (l : List Value) (H : Heap) (h : I k l H) : wLoop P true 36 slices_Concat_byte_byte_P0 13 l H Qx Qr :=
  loop_ind (by kernel_rfl) I (fun k l H h => (slices_Concat_byte_byte_L0_eq l H _ Qx Qr).mpr (hs k l H h)) k l H h
def slices_Concat_byte_byte_L1 (l : List Value) (H : Heap) (N : List Value → Heap → Prop) (Qx : Nat → List Value → Heap → Prop) (Qr : List Value → Heap → Prop) : Prop :=
opP ((binC P .lss 3 false).f (nth l 4) (nth l 3)) fun t28 =>
wIf t28 (
opP (idxSl 1 (nth l 2) (nth l 4)) fun t29 =>
opW (loadOne t29 H) fun t30 H3 =>
opW (appendWith 1 1 (nth l 1) t30 H3) fun t33 H5 =>
opP ((binC P .add 3 true).f (nth l 4) (.int .i64 1)) fun t34 =>
N [(nth l 0), t33, (nth l 2), (nth l 3), t34] H5) (
Qx 2 [(nth l 0), (nth l 1)] H)
theorem slices_Concat_byte_byte_L1_eq (l : List Value) (H : Heap) (N : List Value → Heap → Prop) (Qx : Nat → List Value → Heap → Prop) (Qr : List Value → Heap → Prop) : vcC P true 36 slices_Concat_byte_byte_P1 (live slices_Concat_byte_byte_P1 0 68) 68 (envOf (bits 36 (live slices_Concat_byte_byte_P1 0 68)) l) H (loopQ 36 slices_Concat_byte_byte_P1 68 N Qx Qr) = slices_Concat_byte_byte_L1 l H N Qx Qr := by kernel_rfl
theorem slices_Concat_byte_byte_L1_ind (I : Nat → List Value → Heap → Prop) (Qx : Nat → List Value → Heap → Prop) (Qr : List Value → Heap → Prop) (hs : ∀ k l H, I k l H → slices_Concat_byte_byte_L1 l H (fun l H => ∃ k', k' < k ∧ I k' l H) Qx Qr) (k : Nat) (l : List Value) (H : Heap) (h : I k l H) : wLoop P true 36 slices_Concat_byte_byte_P1 68 l H Qx Qr :=
  loop_ind (by kernel_rfl) I (fun k l H h => (slices_Concat_byte_byte_L1_eq l H _ Qx Qr).mpr (hs k l H h)) k l H h
def slices_Concat_byte_byte (t0 : Value) (H : Heap) (K : Value → Heap → Prop) : Prop :=
opW (lenSl t0 H) fun t10 H1 =>
wLoop P true 36 slices_Concat_byte_byte_P0 13 [t0, (.slice none 0 0), (.int .i64 0), t0, t10, (.int .i64 0)] H1 (fun id l H3 =>
cond (Nat.beq id 0) (
wCall P n_slices_Grow_byte_byte [(.slice none 0 0), (nth l 2)] H3 fun t24 H5 =>
opW (lenSl (nth l 0) H5) fun t26 H7 =>
wLoop P true 36 slices_Concat_byte_byte_P1 68 [(nth l 1), t24, (nth l 0), t26, (.int .i64 0)] H7 (fun id l_1 H9 =>
cond (Nat.beq id 2) (
K (nth l_1 1) H9) (
False)) (fun l_1 H9 =>
K (nth l_1 0) H9)) (
False)) (fun l H3 =>
K (nth l 1) H3)
theorem slices_Concat_byte_byte_eq (t0 : Value) (H : Heap) (K : Value → Heap → Prop) : vcF P n_slices_Concat_byte_byte [t0] H K = slices_Concat_byte_byte t0 H K := by kernel_rfl
theorem slices_Concat_byte_byte_ok {t0 : Value} {H : Heap} {K : Value → Heap → Prop} (h : slices_Concat_byte_byte t0 H K) : wCall P n_slices_Concat_byte_byte [t0] H K := wCall_of_vcF rfl ((slices_Concat_byte_byte_eq t0 H K).mpr h)
def slices_Clone_byte_byte (t0 : Value) (H : Heap) (K : Value → Heap → Prop) : Prop :=
opP ((binC P .eql 46 true).f t0 (.slice none 0 0)) fun t4 =>
wIf t4 (
K (.slice none 0 0) H) (
opW ((buildSliceC P 46 0).f [] H) fun t5 H2 =>
opW (appendWith 1 1 t5 t0 H2) fun t7 H4 =>
K t7 H4)
theorem slices_Clone_byte_byte_eq (t0 : Value) (H : Heap) (K : Value → Heap → Prop) : vcF P n_slices_Clone_byte_byte [t0] H K = slices_Clone_byte_byte t0 H K := by kernel_rfl
theorem slices_Clone_byte_byte_ok {t0 : Value} {H : Heap} {K : Value → Heap → Prop} (h : slices_Clone_byte_byte t0 H K) : wCall P n_slices_Clone_byte_byte [t0] H K := wCall_of_vcF rfl ((slices_Clone_byte_byte_eq t0 H K).mpr h)
def journal_Journal_Ready (t0 : Value) (H : Heap) (K : Value → Heap → Prop) : Prop :=
opP (nilCheckA t0) fun t4 =>
opP (offPtr 6 t4) fun t5 =>
opW (loadOne t5 H) fun t6 H3 =>
K t6 H3
theorem journal_Journal_Ready_eq (t0 : Value) (H : Heap) (K : Value → Heap → Prop) : vcF P n_journal_Journal_Ready [t0] H K = journal_Journal_Ready t0 H K := by kernel_rfl
theorem journal_Journal_Ready_ok {t0 : Value} {H : Heap} {K : Value → Heap → Prop} (h : journal_Journal_Ready t0 H K) : wCall P n_journal_Journal_Ready [t0] H K := wCall_of_vcF rfl ((journal_Journal_Ready_eq t0 H K).mpr h)
def journal_Journal_Append (t0 t1 : Value) (H : Heap) (K : Value → Heap → Prop) : Prop :=
opP (nilCheckA t0) fun t8 =>
opP (offPtr 6 t8) fun t9 =>
opW (loadOne t9 H) fun t10 H3 =>
opP (unA .not t10) fun t11 =>
wIf t11 (
K (.int .i64 91) H3) (
opP (nilCheckA t0) fun t13 =>
opP (offPtr 4 t13) fun t14 =>
opW (loadOne t14 H3) fun t15 H8 =>
opP ((binC P .add 30 true).f t15 (.int .u64 1)) fun t16 =>
wCall P n_frame_Put [(.int .u8 2), t16, t1] H8 fun t18 H11 =>
wJoin (fun J =>
opW (lenSl t18 H11) fun t20 H14 =>
opP ((binC P .eql 3 true).f t20 (.int .i64 0)) fun t21 =>
wIf t21 (
opP (pickA t21 (.bool true) undef) fun t28 =>
opP (pickA t28 (.bool true) undef) fun t35 =>
wIf t35 (
K (.int .i64 92) H14) (
J [t0, t18] H14)) (
opW (lenSl t18 H14) fun t24 H19 =>
wCall P n_journal_Journal_Left [t0] H19 fun t26 H21 =>
opP ((binC P .gtr 3 false).f t24 t26) fun t27 =>
opP (pickA t21 (.bool true) t27) fun t28_1 =>
wIf t28_1 (
opP (pickA t28_1 (.bool true) undef) fun t35_1 =>
wIf t35_1 (
K (.int .i64 92) H21) (
J [t0, t18] H21)) (
opP (nilCheckA t0) fun t31 =>
opP (offPtr 4 t31) fun t32 =>
opW (loadOne t32 H21) fun t33 H28 =>
opP ((binC P .geq 30 true).f t33 (.int .u64 4611686018427387904)) fun t34 =>
opP (pickA t28_1 (.bool true) t34) fun t35_2 =>
wIf t35_2 (
K (.int .i64 92) H28) (
J [t0, t18] H28)))) (fun l H32 =>
opP (nilCheckA (nth l 0)) fun t39 =>
opP (offPtr 3 t39) fun t40 =>
opW (loadOne t40 H32) fun t41 H36 =>
opP (nilCheckA (nth l 0)) fun t42 =>
opP (offPtr 1 t42) fun t43 =>
opP (idxPtr 2 1 t43 t41) fun t44 =>
opW (loadOne t44 H36) fun t45 H41 =>
opP (nilCheckA (nth l 0)) fun t47 =>
opP (offPtr 5 t47) fun t48 =>
opW (loadOne t48 H41) fun t49 H45 =>
wCall P n_journal_Journal_write [(nth l 0), t45, t49, (nth l 1)] H45 fun t51 H47 =>
opP ((binC P .neq 24 true).f t51 (.int .i64 0)) fun t53 =>
wIf t53 (
opP (nilCheckA (nth l 0)) fun t55 =>
opP (offPtr 6 t55) fun t56 =>
opW (storeTo 1 t56 (.bool false) H47) fun u H52 =>
K t51 H52) (
opP (nilCheckA (nth l 0)) fun t61 =>
opP (offPtr 4 t61) fun t62 =>
opW (loadOne t62 H47) fun t63 H56 =>
opP ((binC P .add 30 true).f t63 (.int .u64 1)) fun t64 =>
opP (nilCheckA (nth l 0)) fun t66 =>
opP (offPtr 5 t66) fun t67 =>
opW (loadOne t67 H56) fun t68 H61 =>
opW (lenSl (nth l 1) H61) fun t70 H63 =>
opP ((binC P .add 3 false).f t68 t70) fun t71 =>
opP (nilCheckA (nth l 0)) fun t72 =>
opP (offPtr 4 t72) fun t73 =>
opW (storeTo 1 t73 t64 H63) fun u_1 H68 =>
opP (nilCheckA (nth l 0)) fun t74 =>
opP (offPtr 5 t74) fun t75 =>
opW (storeTo 1 t75 t71 H68) fun u_2 H72 =>
K (.int .i64 0) H72)))
theorem journal_Journal_Append_eq (t0 t1 : Value) (H : Heap) (K : Value → Heap → Prop) : vcF P n_journal_Journal_Append [t0, t1] H K = journal_Journal_Append t0 t1 H K := by kernel_rfl
theorem journal_Journal_Append_ok {t0 t1 : Value} {H : Heap} {K : Value → Heap → Prop} (h : journal_Journal_Append t0 t1 H K) : wCall P n_journal_Journal_Append [t0, t1] H K := wCall_of_vcF rfl ((journal_Journal_Append_eq t0 t1 H K).mpr h)
def journal_Journal_Begin (t0 t1 : Value) (H : Heap) (K : Value → Heap → Prop) : Prop :=
wJoin (fun J =>
opW (lenSl t1 H) fun t13 H2 =>
wCall P n_journal_Journal_Fits [t0, t13] H2 fun t14 H4 =>
opP (unA .not t14) fun t15 =>
wIf t15 (
opP (pickA t15 (.bool true) undef) fun t22 =>
wIf t22 (
K (.int .i64 92) H4) (
J [t0, t1] H4)) (
opP (nilCheckA t0) fun t18 =>
opP (offPtr 4 t18) fun t19 =>
opW (loadOne t19 H4) fun t20 H10 =>
opP ((binC P .geq 30 true).f t20 (.int .u64 4611686018427387904)) fun t21 =>
opP (pickA t15 (.bool true) t21) fun t22_1 =>
wIf t22_1 (
K (.int .i64 92) H10) (
J [t0, t1] H10))) (fun l H14 =>
opP (nilCheckA (nth l 0)) fun t24 =>
opP (offPtr 6 t24) fun t25 =>
opW (storeTo 1 t25 (.bool false) H14) fun u H18 =>
opP (nilCheckA (nth l 0)) fun t27 =>
opP (offPtr 3 t27) fun t28 =>
opW (loadOne t28 H18) fun t29 H22 =>
opP ((binC P .sub 3 true).f (.int .i64 1) t29) fun t30 =>
opP (nilCheckA (nth l 0)) fun t33 =>
opP (offPtr 1 t33) fun t34 =>
opP (idxPtr 2 1 t34 t30) fun t35 =>
opW (loadOne t35 H22) fun t36 H28 =>
opP (nilCheckA (nth l 0)) fun t38 =>
opP (offPtr 0 t38) fun t39 =>
opW (loadOne t39 H28) fun t40 H32 =>
wCall P n_part_Map_Wipe [t40, t36] H32 fun t42 H34 =>
opP ((binC P .neq 24 true).f t42 (.int .i64 0)) fun t44 =>
wIf t44 (
K t42 H34) (
opP (nilCheckA (nth l 0)) fun t47 =>
opP (offPtr 0 t47) fun t48 =>
opW (loadOne t48 H34) fun t49 H39 =>
wCall P n_part_Map_Sync [t49] H39 fun t50 H41 =>
opP ((binC P .neq 24 true).f t50 (.int .i64 0)) fun t52 =>
wIf t52 (
K t50 H41) (
opP (nilCheckA (nth l 0)) fun t55 =>
opP (offPtr 4 t55) fun t56 =>
opW (loadOne t56 H41) fun t57 H46 =>
opP ((binC P .add 30 true).f t57 (.int .u64 1)) fun t58 =>
wCall P n_frame_Put [(.int .u8 1), t58, (nth l 1)] H46 fun t60 H49 =>
wCall P n_journal_Journal_write [(nth l 0), t36, (.int .i64 0), t60] H49 fun t64 H51 =>
opP ((binC P .neq 24 true).f t64 (.int .i64 0)) fun t66 =>
wIf t66 (
K t64 H51) (
opP (nilCheckA (nth l 0)) fun t74 =>
opP (offPtr 4 t74) fun t75 =>
opW (loadOne t75 H51) fun t76 H56 =>
opP ((binC P .add 30 true).f t76 (.int .u64 1)) fun t77 =>
opW (lenSl t60 H56) fun t79 H59 =>
opP (nilCheckA (nth l 0)) fun t80 =>
opP (offPtr 3 t80) fun t81 =>
opW (storeTo 1 t81 t30 H59) fun u_1 H63 =>
opP (nilCheckA (nth l 0)) fun t82 =>
opP (offPtr 4 t82) fun t83 =>
opW (storeTo 1 t83 t77 H63) fun u_2 H67 =>
opP (nilCheckA (nth l 0)) fun t84 =>
opP (offPtr 5 t84) fun t85 =>
opW (storeTo 1 t85 t79 H67) fun u_3 H71 =>
opP (nilCheckA (nth l 0)) fun t86 =>
opP (offPtr 6 t86) fun t87 =>
opW (storeTo 1 t87 (.bool true) H71) fun u_4 H75 =>
K (.int .i64 0) H75))))
theorem journal_Journal_Begin_eq (t0 t1 : Value) (H : Heap) (K : Value → Heap → Prop) : vcF P n_journal_Journal_Begin [t0, t1] H K = journal_Journal_Begin t0 t1 H K := by kernel_rfl
theorem journal_Journal_Begin_ok {t0 t1 : Value} {H : Heap} {K : Value → Heap → Prop} (h : journal_Journal_Begin t0 t1 H K) : wCall P n_journal_Journal_Begin [t0, t1] H K := wCall_of_vcF rfl ((journal_Journal_Begin_eq t0 t1 H K).mpr h)
def part_Map_Size (t0 t1 : Value) (H : Heap) (K : Value → Heap → Prop) : Prop :=
wCall P n_part_Map_has [t0, t1] H fun t7 H1 =>
opP (unA .not t7) fun t8 =>
wIf t8 (
K (.int .i64 0) H1) (
opP (nilCheckA t0) fun t10 =>
opP (offPtr 1 t10) fun t11 =>
opW (loadOne t11 H1) fun t12 H6 =>
opP (idxSl 2 t12 t1) fun t14 =>
opP (offPtr 1 t14) fun t15 =>
opW (loadOne t15 H6) fun t16 H10 =>
K t16 H10)
theorem part_Map_Size_eq (t0 t1 : Value) (H : Heap) (K : Value → Heap → Prop) : vcF P n_part_Map_Size [t0, t1] H K = part_Map_Size t0 t1 H K := by kernel_rfl
theorem part_Map_Size_ok {t0 t1 : Value} {H : Heap} {K : Value → Heap → Prop} (h : part_Map_Size t0 t1 H K) : wCall P n_part_Map_Size [t0, t1] H K := wCall_of_vcF rfl ((part_Map_Size_eq t0 t1 H K).mpr h)
noncomputable abbrev journal_sectors_P0 : Code := loopAt P n_journal_sectors 0
def journal_sectors_L0 (l : List Value) (H : Heap) (N : List Value → Heap → Prop) (Qx : Nat → List Value → Heap → Prop) (Qr : List Value → Heap → Prop) : Prop :=
opP ((binC P .lss 3 false).f (nth l 5) (nth l 4)) fun t13 =>
wIf t13 (
wCall P n_part_Map_Read [(nth l 0), (nth l 1), (nth l 5)] H fun t19 H2 =>
opP (extA 0 t19) fun t20 =>
opP (extA 1 t19) fun t21 =>
wNew (zc P 121) H2 fun t7 H6 =>
opW (storeTo 64 t7 t20 H6) fun u H8 =>
opW (loadAgg 64 t7 H8) fun t23 H10 =>
opW ((buildSliceC P 143 1).f [(0, t23)] H10) fun t24 H12 =>
opW (appendWith 64 64 (nth l 3) t24 H12) fun t25 H14 =>
opP ((binC P .add 3 true).f (nth l 5) (.int .i64 1)) fun t26 =>
N [(nth l 0), (nth l 1), (nth l 2), t25, (nth l 4), t26] H14) (
Qx 0 [(nth l 2), (nth l 3)] H)
theorem journal_sectors_L0_eq (l : List Value) (H : Heap) (N : List Value → Heap → Prop) (Qx : Nat → List Value → Heap → Prop) (Qr : List Value → Heap → Prop) : vcC P true 28 journal_sectors_P0 (live journal_sectors_P0 0 48) 48 (envOf (bits 28 (live journal_sectors_P0 0 48)) l) H (loopQ 28 journal_sectors_P0 48 N Qx Qr) = journal_sectors_L0 l H N Qx Qr := by kernel_rfl
theorem journal_sectors_L0_ind (I : Nat → List Value → Heap → Prop) (Qx : Nat → List Value → Heap → Prop) (Qr : List Value → Heap → Prop) (hs : ∀ k l H, I k l H → journal_sectors_L0 l H (fun l H => ∃ k', k' < k ∧ I k' l H) Qx Qr) (k : Nat) (l : List Value) (H : Heap) (h : I k l H) : wLoop P true 28 journal_sectors_P0 48 l H Qx Qr :=
  loop_ind (by kernel_rfl) I (fun k l H h => (journal_sectors_L0_eq l H _ Qx Qr).mpr (hs k l H h)) k l H h
def journal_sectors (t0 t1 : Value) (H : Heap) (K : Value → Heap → Prop) : Prop :=
wCall P n_part_Map_Size [t0, t1] H fun t11 H1 =>
wLoop P true 28 journal_sectors_P0 48 [t0, t1, (.slice none 0 0), (.slice none 0 0), t11, (.int .i64 0)] H1 (fun id l H3 =>
cond (Nat.beq id 0) (
K (nth l 1) H3) (
False)) (fun l H3 =>
K (nth l 0) H3)
theorem journal_sectors_eq (t0 t1 : Value) (H : Heap) (K : Value → Heap → Prop) : vcF P n_journal_sectors [t0, t1] H K = journal_sectors t0 t1 H K := by kernel_rfl
theorem journal_sectors_ok {t0 t1 : Value} {H : Heap} {K : Value → Heap → Prop} (h : journal_sectors t0 t1 H K) : wCall P n_journal_sectors [t0, t1] H K := wCall_of_vcF rfl ((journal_sectors_eq t0 t1 H K).mpr h)
def frame_Get (t0 : Value) (H : Heap) (K : Value → Heap → Prop) : Prop :=
opW (lenSl t0 H) fun t14 H1 =>
opP ((binC P .eql 3 true).f t14 (.int .i64 0)) fun t15 =>
wIf t15 (
K (.tuple [(.int .u8 0), (.int .u64 0), (.slice none 0 0), (.int .i64 0)].toArray) H1) (
opP (idxSl 64 t0 (.int .i64 0)) fun t17 =>
opP (sliceArr 64 1 t17 none none none H1) fun t18 =>
wCall P n_code_New [t18] H1 fun t19 H6 =>
wCall P n_code_Reader_Raw [t19, (.int .i64 2)] H6 fun t21 H8 =>
wCall P n_code_Reader_Fixed [t19, (.int .i64 1)] H8 fun t23 H10 =>
opW (cvInt .u8 t23 H10) fun t24 H12 =>
wCall P n_code_Reader_Fixed [t19, (.int .i64 8)] H12 fun t26 H14 =>
wCall P n_code_Reader_Fixed [t19, (.int .i64 2)] H14 fun t28 H16 =>
opW (cvInt .i64 t28 H16) fun t29 H18 =>
wCall P n_frame_Size [t29] H18 fun t31 H20 =>
wJoin (fun J =>
opW (bytesToStr t21 H20) fun t33 H23 =>
opP ((binC P .neq 9 true).f t33 (.string ⟨#[66, 74]⟩)) fun t34 =>
wIf t34 (
opP (pickA t34 (.bool true) undef) fun t38 =>
opP (pickA t38 (.bool true) undef) fun t44 =>
J [t0, t24, t26, t29, t31, t44] H23) (
opP ((binC P .eql 3 true).f t31 (.int .i64 0)) fun t37 =>
opP (pickA t34 (.bool true) t37) fun t38_1 =>
wIf t38_1 (
opP (pickA t38_1 (.bool true) undef) fun t44_1 =>
J [t0, t24, t26, t29, t31, t44_1] H23) (
opW (lenSl t0 H23) fun t42 H31 =>
opP ((binC P .gtr 3 false).f t31 t42) fun t43 =>
opP (pickA t38_1 (.bool true) t43) fun t44_2 =>
J [t0, t24, t26, t29, t31, t44_2] H31))) (fun l H35 =>
wIf (nth l 5) (
K (.tuple [(.int .u8 0), (.int .u64 0), (.slice none 0 0), (.int .i64 0)].toArray) H35) (
opP (sliceSl 64 (nth l 0) none (some (nth l 4)) none) fun t47 =>
wCall P n_frame_plain [t47] H35 fun t48 H38 =>
opP ((binC P .add 3 true).f (.int .i64 13) (nth l 3)) fun t50 =>
opP (sliceSl 1 t48 (some (.int .i64 13)) (some t50) none) fun t51 =>
wCall P n_frame_Put [(nth l 1), (nth l 2), t51] H38 fun t55 H42 =>
opP (sliceSl 64 (nth l 0) none (some (nth l 4)) none) fun t58 =>
wCall P n_slices_Equal_api_Sector_api_Sector [t55, t58] H42 fun t59 H45 =>
opP (unA .not t59) fun t60 =>
wIf t60 (
K (.tuple [(.int .u8 0), (.int .u64 0), (.slice none 0 0), (.int .i64 0)].toArray) H45) (
wCall P n_slices_Clone_byte_byte [t51] H45 fun t64 H48 =>
K (.tuple [(nth l 1), (nth l 2), t64, (nth l 4)].toArray) H48))))
theorem frame_Get_eq (t0 : Value) (H : Heap) (K : Value → Heap → Prop) : vcF P n_frame_Get [t0] H K = frame_Get t0 H K := by kernel_rfl
theorem frame_Get_ok {t0 : Value} {H : Heap} {K : Value → Heap → Prop} (h : frame_Get t0 H K) : wCall P n_frame_Get [t0] H K := wCall_of_vcF rfl ((frame_Get_eq t0 H K).mpr h)
noncomputable abbrev slices_Backward_byte_byte_1_P0 : Code := loopAt P n_slices_Backward_byte_byte_1 0
def slices_Backward_byte_byte_1_L0 (l : List Value) (H : Heap) (N : List Value → Heap → Prop) (Qx : Nat → List Value → Heap → Prop) (Qr : List Value → Heap → Prop) : Prop :=
opP ((binC P .geq 3 true).f (nth l 2) (.int .i64 0)) fun t8 =>
wIf t8 (
opW (loadOne (nth l 1) H) fun t13 H2 =>
opP (idxSl 1 t13 (nth l 2)) fun t15 =>
opW (loadOne t15 H2) fun t16 H5 =>
wTgt P (callee1 (nth l 0) [(nth l 2), t16]) H5 fun t17 H7 =>
opP (unA .not t17) fun t18 =>
wIf t18 (
Qr [] H7) (
opP ((binC P .sub 3 true).f (nth l 2) (.int .i64 1)) fun t10 =>
N [(nth l 0), (nth l 1), t10] H7)) (
Qx 0 [] H)
theorem slices_Backward_byte_byte_1_L0_eq (l : List Value) (H : Heap) (N : List Value → Heap → Prop) (Qx : Nat → List Value → Heap → Prop) (Qr : List Value → Heap → Prop) : vcC P true 19 slices_Backward_byte_byte_1_P0 (live slices_Backward_byte_byte_1_P0 0 0) 0 (envOf (bits 19 (live slices_Backward_byte_byte_1_P0 0 0)) l) H (loopQ 19 slices_Backward_byte_byte_1_P0 0 N Qx Qr) = slices_Backward_byte_byte_1_L0 l H N Qx Qr := by kernel_rfl
theorem slices_Backward_byte_byte_1_L0_ind (I : Nat → List Value → Heap → Prop) (Qx : Nat → List Value → Heap → Prop) (Qr : List Value → Heap → Prop) (hs : ∀ k l H, I k l H → slices_Backward_byte_byte_1_L0 l H (fun l H => ∃ k', k' < k ∧ I k' l H) Qx Qr) (k : Nat) (l : List Value) (H : Heap) (h : I k l H) : wLoop P true 19 slices_Backward_byte_byte_1_P0 0 l H Qx Qr :=
  loop_ind (by kernel_rfl) I (fun k l H h => (slices_Backward_byte_byte_1_L0_eq l H _ Qx Qr).mpr (hs k l H h)) k l H h
def slices_Backward_byte_byte_1 (t0 t1 : Value) (H : Heap) (K : Value → Heap → Prop) : Prop :=
opW (loadOne t1 H) fun t4 H1 =>
opW (lenSl t4 H1) fun t5 H3 =>
opP ((binC P .sub 3 true).f t5 (.int .i64 1)) fun t6 =>
wLoop P true 19 slices_Backward_byte_byte_1_P0 0 [t0, t1, t6] H3 (fun id l H6 =>
cond (Nat.beq id 0) (
K (.tuple [].toArray) H6) (
False)) (fun l H6 =>
K (.tuple [].toArray) H6)
theorem slices_Backward_byte_byte_1_eq (t0 t1 : Value) (H : Heap) (K : Value → Heap → Prop) : vcF P n_slices_Backward_byte_byte_1 [t0, t1] H K = slices_Backward_byte_byte_1 t0 t1 H K := by kernel_rfl
theorem slices_Backward_byte_byte_1_ok {t0 t1 : Value} {H : Heap} {K : Value → Heap → Prop} (h : slices_Backward_byte_byte_1 t0 t1 H K) : wCall P n_slices_Backward_byte_byte_1 [t0, t1] H K := wCall_of_vcF rfl ((slices_Backward_byte_byte_1_eq t0 t1 H K).mpr h)
def code_Reader_fail (t0 t1 : Value) (H : Heap) (K : Value → Heap → Prop) : Prop :=
opP (nilCheckA t0) fun t5 =>
opP (offPtr 1 t5) fun t6 =>
opW (loadOne t6 H) fun t7 H3 =>
opP ((binC P .eql 24 true).f t7 (.int .i64 0)) fun t8 =>
wIf t8 (
opP (nilCheckA t0) fun t11 =>
opP (offPtr 1 t11) fun t12 =>
opW (storeTo 1 t12 t1 H3) fun u H8 =>
opP (nilCheckA t0) fun t14 =>
opP (offPtr 0 t14) fun t15 =>
opW (storeTo 1 t15 (.slice none 0 0) H8) fun u_1 H12 =>
K (.tuple [].toArray) H12) (
opP (nilCheckA t0) fun t14_1 =>
opP (offPtr 0 t14_1) fun t15_1 =>
opW (storeTo 1 t15_1 (.slice none 0 0) H3) fun u_2 H16 =>
K (.tuple [].toArray) H16)
theorem code_Reader_fail_eq (t0 t1 : Value) (H : Heap) (K : Value → Heap → Prop) : vcF P n_code_Reader_fail [t0, t1] H K = code_Reader_fail t0 t1 H K := by kernel_rfl
theorem code_Reader_fail_ok {t0 t1 : Value} {H : Heap} {K : Value → Heap → Prop} (h : code_Reader_fail t0 t1 H K) : wCall P n_code_Reader_fail [t0, t1] H K := wCall_of_vcF rfl ((code_Reader_fail_eq t0 t1 H K).mpr h)
def slices_Grow_byte_byte (t0 t1 : Value) (H : Heap) (K : Value → Heap → Prop) : Prop :=
wJoin (fun J =>
opP ((binC P .lss 3 true).f t1 (.int .i64 0)) fun t6 =>
wIf t6 (
False) (
J [t0, t1] H)) (fun l H3 =>
opW ((builtinC P .cap [46]).f [(nth l 0)] H3) fun t10 H5 =>
opW (lenSl (nth l 0) H5) fun t12 H7 =>
opP ((binC P .sub 3 false).f t10 t12) fun t13 =>
opP ((binC P .sub 3 false).f (nth l 1) t13) fun t14 =>
opP ((binC P .gtr 3 true).f t14 (.int .i64 0)) fun t16 =>
wIf t16 (
opW ((builtinC P .cap [46]).f [(nth l 0)] H7) fun t19 H12 =>
opP (sliceSl 1 (nth l 0) none (some t19) none) fun t20 =>
opW ((builtinC P .append [46, 3]).f [t20, t14] H12) fun t22 H15 =>
opW (lenSl (nth l 0) H15) fun t24 H17 =>
opP (sliceSl 1 t22 none (some t24) none) fun t25 =>
K t25 H17) (
K (nth l 0) H7))
theorem slices_Grow_byte_byte_eq (t0 t1 : Value) (H : Heap) (K : Value → Heap → Prop) : vcF P n_slices_Grow_byte_byte [t0, t1] H K = slices_Grow_byte_byte t0 t1 H K := by kernel_rfl
theorem slices_Grow_byte_byte_ok {t0 t1 : Value} {H : Heap} {K : Value → Heap → Prop} (h : slices_Grow_byte_byte t0 t1 H K) : wCall P n_slices_Grow_byte_byte [t0, t1] H K := wCall_of_vcF rfl ((slices_Grow_byte_byte_eq t0 t1 H K).mpr h)
noncomputable abbrev frame_Put_RP0 : List Tmp × Code × Code := rangeAt P n_frame_Put 0
def frame_Put_R0 (vals args : List Value) (l : Nat) (H : Heap) (K : Value → Heap → Prop) : Prop :=
wBegin l H fun H0 =>
wCall P n_flash_Blank [] H0 fun t19 H2 =>
wNew (zc P 121) H2 fun t9 H4 =>
opW (storeTo 64 t9 t19 H4) fun u H6 =>
opP (sliceArr 64 1 t9 none none none H6) fun t20 =>
opW (copyTo 1 t20 (nth args 0) H6) fun t22 H9 =>
opP (idxPtr 64 1 t9 (.int .i64 63)) fun t23 =>
opW (storeTo 1 t23 (.int .u8 0) H9) fun u_1 H12 =>
opW (loadOne (nth vals 0) H12) fun t24 H14 =>
opW (loadAgg 64 t9 H14) fun t25 H16 =>
opW ((buildSliceC P 143 1).f [(0, t25)] H16) fun t26 H18 =>
opW (appendWith 64 64 t24 t26 H18) fun t27 H20 =>
opW (storeTo 1 (nth vals 0) t27 H20) fun u_2 H22 =>
wEnd l .normal H22 K
theorem frame_Put_R0_eq (vals args : List Value) (l : Nat) (H : Heap) (K : Value → Heap → Prop) : vcRound P 29 frame_Put_RP0.1 frame_Put_RP0.2.1 frame_Put_RP0.2.2 vals args l H K = frame_Put_R0 vals args l H K := by kernel_rfl
def frame_Put (t0 t1 t2 : Value) (H : Heap) (K : Value → Heap → Prop) : Prop :=
opW (lenSl t2 H) fun t11 H1 =>
opP ((binC P .gtr 3 true).f t11 (.int .i64 4000)) fun t12 =>
wIf t12 (
K (.slice none 0 0) H1) (
wNew (zc P 143) H1 fun t7 H4 =>
wCall P n_frame_sealed [t0, t1, t2] H4 fun t16 H6 =>
wCall P n_slices_Chunk_byte_byte [t16, (.int .i64 63)] H6 fun t17 H8 =>
wRange P 29 frame_Put_RP0.1 frame_Put_RP0.2.1 frame_Put_RP0.2.2 [t7, undef] t17 H8 (fun H9 =>
opW (loadOne t7 H9) fun t28 H11 =>
K t28 H11) (fun id H9 =>
cond (Nat.beq id 0) (
opW (loadOne t7 H9) fun t28_1 H13 =>
K t28_1 H13) (
False)) (fun H9 =>
K (.slice none 0 0) H9))
theorem frame_Put_eq (t0 t1 t2 : Value) (H : Heap) (K : Value → Heap → Prop) : vcF P n_frame_Put [t0, t1, t2] H K = frame_Put t0 t1 t2 H K := by kernel_rfl
theorem frame_Put_ok {t0 t1 t2 : Value} {H : Heap} {K : Value → Heap → Prop} (h : frame_Put t0 t1 t2 H K) : wCall P n_frame_Put [t0, t1, t2] H K := wCall_of_vcF rfl ((frame_Put_eq t0 t1 t2 H K).mpr h)
noncomputable abbrev journal_Journal_write_P0 : Code := loopAt P n_journal_Journal_write 0
def journal_Journal_write_L0 (l : List Value) (H : Heap) (N : List Value → Heap → Prop) (Qx : Nat → List Value → Heap → Prop) (Qr : List Value → Heap → Prop) : Prop :=
opP ((binC P .lss 3 false).f (nth l 6) (nth l 5)) fun t15 =>
wIf t15 (
opP (idxSl 64 (nth l 4) (nth l 6)) fun t17 =>
opW (loadAgg 64 t17 H) fun t18 H3 =>
wNew (zc P 121) H3 fun t10 H5 =>
opW (storeTo 64 t10 t18 H5) fun u H7 =>
opP (nilCheckA (nth l 0)) fun t20 =>
opP (offPtr 0 t20) fun t21 =>
opW (loadOne t21 H7) fun t22 H11 =>
opP ((binC P .add 3 false).f (nth l 2) (nth l 6)) fun t26 =>
opW (loadAgg 64 t10 H11) fun t27 H14 =>
wCall P n_part_Map_Program [t22, (nth l 1), t26, t27] H14 fun t28 H16 =>
opP ((binC P .neq 24 true).f t28 (.int .i64 0)) fun t30 =>
wIf t30 (
Qr [(nth l 0), t28] H16) (
opP ((binC P .add 3 true).f (nth l 6) (.int .i64 1)) fun t32 =>
N [(nth l 0), (nth l 1), (nth l 2), (nth l 3), (nth l 4), (nth l 5), t32] H16)) (
Qx 0 [(nth l 0), (nth l 3)] H)
theorem journal_Journal_write_L0_eq (l : List Value) (H : Heap) (N : List Value → Heap → Prop) (Qx : Nat → List Value → Heap → Prop) (Qr : List Value → Heap → Prop) : vcC P true 38 journal_Journal_write_P0 (live journal_Journal_write_P0 0 257) 257 (envOf (bits 38 (live journal_Journal_write_P0 0 257)) l) H (loopQ 38 journal_Journal_write_P0 257 N Qx Qr) = journal_Journal_write_L0 l H N Qx Qr := by kernel_rfl
theorem journal_Journal_write_L0_ind (I : Nat → List Value → Heap → Prop) (Qx : Nat → List Value → Heap → Prop) (Qr : List Value → Heap → Prop) (hs : ∀ k l H, I k l H → journal_Journal_write_L0 l H (fun l H => ∃ k', k' < k ∧ I k' l H) Qx Qr) (k : Nat) (l : List Value) (H : Heap) (h : I k l H) : wLoop P true 38 journal_Journal_write_P0 257 l H Qx Qr :=
  loop_ind (by kernel_rfl) I (fun k l H h => (journal_Journal_write_L0_eq l H _ Qx Qr).mpr (hs k l H h)) k l H h
def journal_Journal_write (t0 t1 t2 t3 : Value) (H : Heap) (K : Value → Heap → Prop) : Prop :=
opW (lenSl t3 H) fun t13 H1 =>
wLoop P true 38 journal_Journal_write_P0 257 [t0, t1, t2, (.int .i64 0), t3, t13, (.int .i64 0)] H1 (fun id l H3 =>
cond (Nat.beq id 0) (
opP (nilCheckA (nth l 0)) fun t34 =>
opP (offPtr 0 t34) fun t35 =>
opW (loadOne t35 H3) fun t36 H7 =>
wCall P n_part_Map_Sync [t36] H7 fun t37 H9 =>
K t37 H9) (
False)) (fun l H3 =>
K (nth l 1) H3)
theorem journal_Journal_write_eq (t0 t1 t2 t3 : Value) (H : Heap) (K : Value → Heap → Prop) : vcF P n_journal_Journal_write [t0, t1, t2, t3] H K = journal_Journal_write t0 t1 t2 t3 H K := by kernel_rfl
theorem journal_Journal_write_ok {t0 t1 t2 t3 : Value} {H : Heap} {K : Value → Heap → Prop} (h : journal_Journal_write t0 t1 t2 t3 H K) : wCall P n_journal_Journal_write [t0, t1, t2, t3] H K := wCall_of_vcF rfl ((journal_Journal_write_eq t0 t1 t2 t3 H K).mpr h)
def journal_Journal_Fits (t0 t1 : Value) (H : Heap) (K : Value → Heap → Prop) : Prop :=
wCall P n_frame_Size [t1] H fun t7 H1 =>
opP ((binC P .gtr 3 true).f t7 (.int .i64 0)) fun t9 =>
wIf t9 (
opP (nilCheckA t0) fun t13 =>
opP (offPtr 0 t13) fun t14 =>
opW (loadOne t14 H1) fun t15 H6 =>
opP (nilCheckA t0) fun t17 =>
opP (offPtr 1 t17) fun t18 =>
opP (idxPtr 2 1 t18 (.int .i64 0)) fun t19 =>
opW (loadOne t19 H6) fun t20 H11 =>
wCall P n_part_Map_Size [t15, t20] H11 fun t21 H13 =>
opP (nilCheckA t0) fun t23 =>
opP (offPtr 0 t23) fun t24 =>
opW (loadOne t24 H13) fun t25 H17 =>
cSame (sameB H11 H13) (idsOf [t24]) ∧ (opP (nilCheckA t0) fun t27 =>
opP (offPtr 1 t27) fun t28 =>
opP (idxPtr 2 1 t28 (.int .i64 1)) fun t29 =>
opW (loadOne t29 H17) fun t30 H22 =>
cSame (sameB H11 H13) (idsOf [t29]) ∧ (wCall P n_part_Map_Size [t25, t30] H22 fun t31 H24 =>
opW (withH H24 (minA [t21, t31])) fun t32 H26 =>
opP ((binC P .leq 3 false).f t7 t32) fun t33 =>
opP (pickA t9 t33 (.bool false)) fun t34 =>
K t34 H26))) (
opP (pickA t9 undef (.bool false)) fun t34_1 =>
K t34_1 H1)
theorem journal_Journal_Fits_eq (t0 t1 : Value) (H : Heap) (K : Value → Heap → Prop) : vcF P n_journal_Journal_Fits [t0, t1] H K = journal_Journal_Fits t0 t1 H K := by kernel_rfl
theorem journal_Journal_Fits_ok {t0 t1 : Value} {H : Heap} {K : Value → Heap → Prop} (h : journal_Journal_Fits t0 t1 H K) : wCall P n_journal_Journal_Fits [t0, t1] H K := wCall_of_vcF rfl ((journal_Journal_Fits_eq t0 t1 H K).mpr h)
noncomputable abbrev part_Map_Wipe_P0 : Code := loopAt P n_part_Map_Wipe 0
def part_Map_Wipe_L0 (l : List Value) (H : Heap) (N : List Value → Heap → Prop) (Qx : Nat → List Value → Heap → Prop) (Qr : List Value → Heap → Prop) : Prop :=
opP ((binC P .lss 3 false).f (nth l 4) (nth l 3)) fun t17 =>
wIf t17 (
wCall P n_part_Map_Read [(nth l 0), (nth l 1), (nth l 4)] H fun t23 H2 =>
opP (extA 0 t23) fun t24 =>
opP (extA 1 t23) fun t25 =>
wNew (zc P 121) H2 fun t6 H6 =>
opW (storeTo 64 t6 t24 H6) fun u H8 =>
opW (loadAgg 64 t6 H8) fun t26 H10 =>
wCall P n_flash_Blank [] H10 fun t27 H12 =>
cSame (sameB H10 H12) (idsOf [t6]) ∧ (opP ((binC P .eql 121 false).f t26 t27) fun t28 =>
wIf t28 (
opP ((binC P .add 3 true).f (nth l 4) (.int .i64 1)) fun t36 =>
N [(nth l 0), (nth l 1), (nth l 2), (nth l 3), t36] H12) (
wCall P n_part_Map_Erase [(nth l 0), (nth l 1), (nth l 4)] H12 fun t32 H16 =>
opP ((binC P .neq 24 true).f t32 (.int .i64 0)) fun t34 =>
wIf t34 (
Qr [t32] H16) (
opP ((binC P .add 3 true).f (nth l 4) (.int .i64 1)) fun t36_1 =>
N [(nth l 0), (nth l 1), (nth l 2), (nth l 3), t36_1] H16)))) (
Qx 0 [(nth l 2)] H)
theorem part_Map_Wipe_L0_eq (l : List Value) (H : Heap) (N : List Value → Heap → Prop) (Qx : Nat → List Value → Heap → Prop) (Qr : List Value → Heap → Prop) : vcC P true 37 part_Map_Wipe_P0 (live part_Map_Wipe_P0 0 16) 16 (envOf (bits 37 (live part_Map_Wipe_P0 0 16)) l) H (loopQ 37 part_Map_Wipe_P0 16 N Qx Qr) = part_Map_Wipe_L0 l H N Qx Qr := by kernel_rfl
theorem part_Map_Wipe_L0_ind (I : Nat → List Value → Heap → Prop) (Qx : Nat → List Value → Heap → Prop) (Qr : List Value → Heap → Prop) (hs : ∀ k l H, I k l H → part_Map_Wipe_L0 l H (fun l H => ∃ k', k' < k ∧ I k' l H) Qx Qr) (k : Nat) (l : List Value) (H : Heap) (h : I k l H) : wLoop P true 37 part_Map_Wipe_P0 16 l H Qx Qr :=
  loop_ind (by kernel_rfl) I (fun k l H h => (part_Map_Wipe_L0_eq l H _ Qx Qr).mpr (hs k l H h)) k l H h
def part_Map_Wipe (t0 t1 : Value) (H : Heap) (K : Value → Heap → Prop) : Prop :=
wCall P n_part_Map_has [t0, t1] H fun t11 H1 =>
opP (unA .not t11) fun t12 =>
wIf t12 (
K (.int .i64 71) H1) (
wCall P n_part_Map_Size [t0, t1] H1 fun t15 H4 =>
wLoop P true 37 part_Map_Wipe_P0 16 [t0, t1, (.int .i64 0), t15, (.int .i64 0)] H4 (fun id l H6 =>
cond (Nat.beq id 0) (
K (.int .i64 0) H6) (
False)) (fun l H6 =>
K (nth l 0) H6))
theorem part_Map_Wipe_eq (t0 t1 : Value) (H : Heap) (K : Value → Heap → Prop) : vcF P n_part_Map_Wipe [t0, t1] H K = part_Map_Wipe t0 t1 H K := by kernel_rfl
theorem part_Map_Wipe_ok {t0 t1 : Value} {H : Heap} {K : Value → Heap → Prop} (h : part_Map_Wipe t0 t1 H K) : wCall P n_part_Map_Wipe [t0, t1] H K := wCall_of_vcF rfl ((part_Map_Wipe_eq t0 t1 H K).mpr h)
def part_Map_Sync (t0 : Value) (H : Heap) (K : Value → Heap → Prop) : Prop :=
opP (nilCheckA t0) fun t4 =>
opP (offPtr 0 t4) fun t5 =>
opW (loadOne t5 H) fun t6 H3 =>
wCall P n_flash_Device_Sync [t6] H3 fun t7 H5 =>
K t7 H5
theorem part_Map_Sync_eq (t0 : Value) (H : Heap) (K : Value → Heap → Prop) : vcF P n_part_Map_Sync [t0] H K = part_Map_Sync t0 H K := by kernel_rfl
theorem part_Map_Sync_ok {t0 : Value} {H : Heap} {K : Value → Heap → Prop} (h : part_Map_Sync t0 H K) : wCall P n_part_Map_Sync [t0] H K := wCall_of_vcF rfl ((part_Map_Sync_eq t0 H K).mpr h)
def part_Map_has (t0 t1 : Value) (H : Heap) (K : Value → Heap → Prop) : Prop :=
opP ((binC P .geq 3 true).f t1 (.int .i64 0)) fun t6 =>
wIf t6 (
opP (nilCheckA t0) fun t10 =>
opP (offPtr 1 t10) fun t11 =>
opW (loadOne t11 H) fun t12 H4 =>
opW (lenSl t12 H4) fun t13 H6 =>
opP ((binC P .lss 3 false).f t1 t13) fun t14 =>
opP (pickA t6 t14 (.bool false)) fun t15 =>
K t15 H6) (
opP (pickA t6 undef (.bool false)) fun t15_1 =>
K t15_1 H)
theorem part_Map_has_eq (t0 t1 : Value) (H : Heap) (K : Value → Heap → Prop) : vcF P n_part_Map_has [t0, t1] H K = part_Map_has t0 t1 H K := by kernel_rfl
theorem part_Map_has_ok {t0 t1 : Value} {H : Heap} {K : Value → Heap → Prop} (h : part_Map_has t0 t1 H K) : wCall P n_part_Map_has [t0, t1] H K := wCall_of_vcF rfl ((part_Map_has_eq t0 t1 H K).mpr h)
def part_Map_Read (t0 t1 t2 : Value) (H : Heap) (K : Value → Heap → Prop) : Prop :=
wNew (zc P 121) H fun t6 H1 =>
wCall P n_part_Map_place [t0, t1, t2] H1 fun t14 H3 =>
opP (extA 0 t14) fun t15 =>
opP (extA 1 t14) fun t16 =>
opP ((binC P .neq 24 true).f t16 (.int .i64 0)) fun t18 =>
wIf t18 (
opP ((buildC P 121).f []) fun t19 =>
opW (storeTo 64 t6 t19 H3) fun u H9 =>
opW (loadAgg 64 t6 H9) fun r _ =>
K (.tuple [r, t16].toArray) H9) (
opP (nilCheckA t0) fun t22 =>
opP (offPtr 0 t22) fun t23 =>
opW (loadOne t23 H3) fun t24 H14 =>
wCall P n_flash_Device_Read [t24, t15] H14 fun t26 H16 =>
opP (extA 0 t26) fun t27 =>
opP (extA 1 t26) fun t28 =>
opW (storeTo 64 t6 t27 H16) fun u_1 H20 =>
opW (loadAgg 64 t6 H20) fun r_1 _ =>
K (.tuple [r_1, t28].toArray) H20)
theorem part_Map_Read_eq (t0 t1 t2 : Value) (H : Heap) (K : Value → Heap → Prop) : vcF P n_part_Map_Read [t0, t1, t2] H K = part_Map_Read t0 t1 t2 H K := by kernel_rfl
theorem part_Map_Read_ok {t0 t1 t2 : Value} {H : Heap} {K : Value → Heap → Prop} (h : part_Map_Read t0 t1 t2 H K) : wCall P n_part_Map_Read [t0, t1, t2] H K := wCall_of_vcF rfl ((part_Map_Read_eq t0 t1 t2 H K).mpr h)
def frame_Size (t0 : Value) (H : Heap) (K : Value → Heap → Prop) : Prop :=
wJoin (fun J =>
opP ((binC P .lss 3 true).f t0 (.int .i64 0)) fun t4 =>
wIf t4 (
opP (pickA t4 (.bool true) undef) fun t8 =>
wIf t8 (
K (.int .i64 0) H) (
J [t0] H)) (
opP ((binC P .gtr 3 true).f t0 (.int .i64 4000)) fun t7 =>
opP (pickA t4 (.bool true) t7) fun t8_1 =>
wIf t8_1 (
K (.int .i64 0) H) (
J [t0] H))) (fun l H6 =>
opP ((binC P .add 3 true).f (.int .i64 13) (nth l 0)) fun t10 =>
opP ((binC P .add 3 true).f t10 (.int .i64 4)) fun t11 =>
opP ((binC P .add 3 true).f t11 (.int .i64 63)) fun t12 =>
opP ((binC P .sub 3 true).f t12 (.int .i64 1)) fun t13 =>
opP ((binC P .quo 3 true).f t13 (.int .i64 63)) fun t14 =>
K t14 H6)
theorem frame_Size_eq (t0 : Value) (H : Heap) (K : Value → Heap → Prop) : vcF P n_frame_Size [t0] H K = frame_Size t0 H K := by kernel_rfl
theorem frame_Size_ok {t0 : Value} {H : Heap} {K : Value → Heap → Prop} (h : frame_Size t0 H K) : wCall P n_frame_Size [t0] H K := wCall_of_vcF rfl ((frame_Size_eq t0 H K).mpr h)
noncomputable abbrev frame_plain_P0 : Code := loopAt P n_frame_plain 0
def frame_plain_L0 (l : List Value) (H : Heap) (N : List Value → Heap → Prop) (Qx : Nat → List Value → Heap → Prop) (Qr : List Value → Heap → Prop) : Prop :=
opP ((binC P .lss 3 false).f (nth l 4) (nth l 3)) fun t9 =>
wIf t9 (
opP (idxSl 64 (nth l 2) (nth l 4)) fun t10 =>
opW (loadAgg 64 t10 H) fun t11 H3 =>
wNew (zc P 121) H3 fun t5 H5 =>
opW (storeTo 64 t5 t11 H5) fun u H7 =>
opP (sliceArr 64 1 t5 none (some (.int .i64 63)) none H7) fun t13 =>
opW (appendWith 1 1 (nth l 1) t13 H7) fun t14 H10 =>
opP ((binC P .add 3 true).f (nth l 4) (.int .i64 1)) fun t15 =>
N [(nth l 0), t14, (nth l 2), (nth l 3), t15] H10) (
Qx 0 [(nth l 0), (nth l 1)] H)
theorem frame_plain_L0_eq (l : List Value) (H : Heap) (N : List Value → Heap → Prop) (Qx : Nat → List Value → Heap → Prop) (Qr : List Value → Heap → Prop) : vcC P true 17 frame_plain_P0 (live frame_plain_P0 0 12) 12 (envOf (bits 17 (live frame_plain_P0 0 12)) l) H (loopQ 17 frame_plain_P0 12 N Qx Qr) = frame_plain_L0 l H N Qx Qr := by kernel_rfl
theorem frame_plain_L0_ind (I : Nat → List Value → Heap → Prop) (Qx : Nat → List Value → Heap → Prop) (Qr : List Value → Heap → Prop) (hs : ∀ k l H, I k l H → frame_plain_L0 l H (fun l H => ∃ k', k' < k ∧ I k' l H) Qx Qr) (k : Nat) (l : List Value) (H : Heap) (h : I k l H) : wLoop P true 17 frame_plain_P0 12 l H Qx Qr :=
  loop_ind (by kernel_rfl) I (fun k l H h => (frame_plain_L0_eq l H _ Qx Qr).mpr (hs k l H h)) k l H h
def frame_plain (t0 : Value) (H : Heap) (K : Value → Heap → Prop) : Prop :=
opW (lenSl t0 H) fun t7 H1 =>
wLoop P true 17 frame_plain_P0 12 [(.slice none 0 0), (.slice none 0 0), t0, t7, (.int .i64 0)] H1 (fun id l H3 =>
cond (Nat.beq id 0) (
K (nth l 1) H3) (
False)) (fun l H3 =>
K (nth l 0) H3)
theorem frame_plain_eq (t0 : Value) (H : Heap) (K : Value → Heap → Prop) : vcF P n_frame_plain [t0] H K = frame_plain t0 H K := by kernel_rfl
theorem frame_plain_ok {t0 : Value} {H : Heap} {K : Value → Heap → Prop} (h : frame_plain t0 H K) : wCall P n_frame_plain [t0] H K := wCall_of_vcF rfl ((frame_plain_eq t0 H K).mpr h)
noncomputable abbrev slices_Equal_api_Sector_api_Sector_P0 : Code := loopAt P n_slices_Equal_api_Sector_api_Sector 0
def slices_Equal_api_Sector_api_Sector_L0 (l : List Value) (H : Heap) (N : List Value → Heap → Prop) (Qx : Nat → List Value → Heap → Prop) (Qr : List Value → Heap → Prop) : Prop :=
opP ((binC P .lss 3 false).f (nth l 4) (nth l 3)) fun t14 =>
wIf t14 (
opP (idxSl 64 (nth l 0) (nth l 4)) fun t18 =>
opW (loadAgg 64 t18 H) fun t19 H3 =>
opP (idxSl 64 (nth l 1) (nth l 4)) fun t22 =>
opW (loadAgg 64 t22 H3) fun t23 H6 =>
opP ((binC P .neq 121 false).f t19 t23) fun t24 =>
wIf t24 (
Qr [(.bool false)] H6) (
opP ((binC P .add 3 true).f (nth l 4) (.int .i64 1)) fun t25 =>
N [(nth l 0), (nth l 1), (nth l 2), (nth l 3), t25] H6)) (
Qx 0 [(nth l 2)] H)
theorem slices_Equal_api_Sector_api_Sector_L0_eq (l : List Value) (H : Heap) (N : List Value → Heap → Prop) (Qx : Nat → List Value → Heap → Prop) (Qr : List Value → Heap → Prop) : vcC P true 26 slices_Equal_api_Sector_api_Sector_P0 (live slices_Equal_api_Sector_api_Sector_P0 0 16) 16 (envOf (bits 26 (live slices_Equal_api_Sector_api_Sector_P0 0 16)) l) H (loopQ 26 slices_Equal_api_Sector_api_Sector_P0 16 N Qx Qr) = slices_Equal_api_Sector_api_Sector_L0 l H N Qx Qr := by kernel_rfl
theorem slices_Equal_api_Sector_api_Sector_L0_ind (I : Nat → List Value → Heap → Prop) (Qx : Nat → List Value → Heap → Prop) (Qr : List Value → Heap → Prop) (hs : ∀ k l H, I k l H → slices_Equal_api_Sector_api_Sector_L0 l H (fun l H => ∃ k', k' < k ∧ I k' l H) Qx Qr) (k : Nat) (l : List Value) (H : Heap) (h : I k l H) : wLoop P true 26 slices_Equal_api_Sector_api_Sector_P0 16 l H Qx Qr :=
  loop_ind (by kernel_rfl) I (fun k l H h => (slices_Equal_api_Sector_api_Sector_L0_eq l H _ Qx Qr).mpr (hs k l H h)) k l H h
def slices_Equal_api_Sector_api_Sector (t0 t1 : Value) (H : Heap) (K : Value → Heap → Prop) : Prop :=
opW (lenSl t0 H) fun t7 H1 =>
opW (lenSl t1 H1) fun t9 H3 =>
opP ((binC P .neq 3 false).f t7 t9) fun t10 =>
wIf t10 (
K (.bool false) H3) (
opW (lenSl t0 H3) fun t12 H6 =>
wLoop P true 26 slices_Equal_api_Sector_api_Sector_P0 16 [t0, t1, (.bool false), t12, (.int .i64 0)] H6 (fun id l H8 =>
cond (Nat.beq id 0) (
K (.bool true) H8) (
False)) (fun l H8 =>
K (nth l 0) H8))
theorem slices_Equal_api_Sector_api_Sector_eq (t0 t1 : Value) (H : Heap) (K : Value → Heap → Prop) : vcF P n_slices_Equal_api_Sector_api_Sector [t0, t1] H K = slices_Equal_api_Sector_api_Sector t0 t1 H K := by kernel_rfl
theorem slices_Equal_api_Sector_api_Sector_ok {t0 t1 : Value} {H : Heap} {K : Value → Heap → Prop} (h : slices_Equal_api_Sector_api_Sector t0 t1 H K) : wCall P n_slices_Equal_api_Sector_api_Sector [t0, t1] H K := wCall_of_vcF rfl ((slices_Equal_api_Sector_api_Sector_eq t0 t1 H K).mpr h)
def slices_Chunk_byte_byte (t0 t1 : Value) (H : Heap) (K : Value → Heap → Prop) : Prop :=
wNew (cellsL t0) H fun t2 H1 =>
wNew (cellsL t1) H1 fun t3 H3 =>
opW (loadOne t3 H3) fun t5 H5 =>
opP ((binC P .lss 3 true).f t5 (.int .i64 1)) fun t6 =>
wIf t6 (
False) (
K (.func (.func n_slices_Chunk_byte_byte_1) [].toArray [t2, t3].toArray) H5)
theorem slices_Chunk_byte_byte_eq (t0 t1 : Value) (H : Heap) (K : Value → Heap → Prop) : vcF P n_slices_Chunk_byte_byte [t0, t1] H K = slices_Chunk_byte_byte t0 t1 H K := by kernel_rfl
theorem slices_Chunk_byte_byte_ok {t0 t1 : Value} {H : Heap} {K : Value → Heap → Prop} (h : slices_Chunk_byte_byte t0 t1 H K) : wCall P n_slices_Chunk_byte_byte [t0, t1] H K := wCall_of_vcF rfl ((slices_Chunk_byte_byte_eq t0 t1 H K).mpr h)
def frame_sealed (t0 t1 t2 : Value) (H : Heap) (K : Value → Heap → Prop) : Prop :=
opW ((buildSliceC P 46 2).f [(0, (.int .u8 66)), (1, (.int .u8 74))] H) fun t8 H1 =>
opW (keepSl t8 H1) fun t9 H3 =>
opW ((buildSliceC P 46 1).f [(0, t0)] H3) fun t11 H5 =>
opW (appendWith 1 1 t9 t11 H5) fun t12 H7 =>
wCall P n_code_Fixed [t12, t1, (.int .i64 8)] H7 fun t15 H9 =>
opW (lenSl t2 H9) fun t17 H11 =>
opW (cvInt .u64 t17 H11) fun t18 H13 =>
wCall P n_code_Fixed [t15, t18, (.int .i64 2)] H13 fun t19 H15 =>
opW ((buildSliceC P 65 1).f [(0, t2)] H15) fun t21 H17 =>
wCall P n_code_Raw [t19, t21] H17 fun t22 H19 =>
opW ((buildSliceC P 65 1).f [(0, t22)] H19) fun t25 H21 =>
wCall P n_crc_Sum [t25] H21 fun t26 H23 =>
opW (cvInt .u64 t26 H23) fun t27 H25 =>
wCall P n_code_Fixed [t22, t27, (.int .i64 4)] H25 fun t28 H27 =>
K t28 H27
theorem frame_sealed_eq (t0 t1 t2 : Value) (H : Heap) (K : Value → Heap → Prop) : vcF P n_frame_sealed [t0, t1, t2] H K = frame_sealed t0 t1 t2 H K := by kernel_rfl
theorem frame_sealed_ok {t0 t1 t2 : Value} {H : Heap} {K : Value → Heap → Prop} (h : frame_sealed t0 t1 t2 H K) : wCall P n_frame_sealed [t0, t1, t2] H K := wCall_of_vcF rfl ((frame_sealed_eq t0 t1 t2 H K).mpr h)
def part_Map_Program (t0 t1 t2 t3 : Value) (H : Heap) (K : Value → Heap → Prop) : Prop :=
wNew (cellsL t3) H fun t7 H1 =>
wCall P n_part_Map_place [t0, t1, t2] H1 fun t15 H3 =>
opP (extA 0 t15) fun t16 =>
opP (extA 1 t15) fun t17 =>
opP ((binC P .neq 24 true).f t17 (.int .i64 0)) fun t19 =>
wIf t19 (
K t17 H3) (
opP ((buildC P 170).f [(0, (.int .i64 2)), (1, t1), (2, t2)]) fun t24 =>
opP (nilCheckA t0) fun t26 =>
opP (offPtr 0 t26) fun t27 =>
opW (loadOne t27 H3) fun t28 H11 =>
opW (loadAgg 64 t7 H11) fun t30 H13 =>
wCall P n_flash_Device_Program [t28, t16, t30] H13 fun t31 H15 =>
wCall P n_part_Map_note [t0, t24, t31] H15 fun t32 H17 =>
K t32 H17)
theorem part_Map_Program_eq (t0 t1 t2 t3 : Value) (H : Heap) (K : Value → Heap → Prop) : vcF P n_part_Map_Program [t0, t1, t2, t3] H K = part_Map_Program t0 t1 t2 t3 H K := by kernel_rfl
theorem part_Map_Program_ok {t0 t1 t2 t3 : Value} {H : Heap} {K : Value → Heap → Prop} (h : part_Map_Program t0 t1 t2 t3 H K) : wCall P n_part_Map_Program [t0, t1, t2, t3] H K := wCall_of_vcF rfl ((part_Map_Program_eq t0 t1 t2 t3 H K).mpr h)
def part_Map_Erase (t0 t1 t2 : Value) (H : Heap) (K : Value → Heap → Prop) : Prop :=
wCall P n_part_Map_place [t0, t1, t2] H fun t13 H1 =>
opP (extA 0 t13) fun t14 =>
opP (extA 1 t13) fun t15 =>
opP ((binC P .neq 24 true).f t15 (.int .i64 0)) fun t17 =>
wIf t17 (
K t15 H1) (
opP ((buildC P 170).f [(0, (.int .i64 1)), (1, t1), (2, t2)]) fun t22 =>
opP (nilCheckA t0) fun t24 =>
opP (offPtr 0 t24) fun t25 =>
opW (loadOne t25 H1) fun t26 H9 =>
wCall P n_flash_Device_Erase [t26, t14] H9 fun t28 H11 =>
wCall P n_part_Map_note [t0, t22, t28] H11 fun t29 H13 =>
K t29 H13)
theorem part_Map_Erase_eq (t0 t1 t2 : Value) (H : Heap) (K : Value → Heap → Prop) : vcF P n_part_Map_Erase [t0, t1, t2] H K = part_Map_Erase t0 t1 t2 H K := by kernel_rfl
theorem part_Map_Erase_ok {t0 t1 t2 : Value} {H : Heap} {K : Value → Heap → Prop} (h : part_Map_Erase t0 t1 t2 H K) : wCall P n_part_Map_Erase [t0, t1, t2] H K := wCall_of_vcF rfl ((part_Map_Erase_eq t0 t1 t2 H K).mpr h)
noncomputable abbrev flash_Device_Sync_P0 : Code := loopAt P n_flash_Device_Sync 0
def flash_Device_Sync_L0 (l : List Value) (H : Heap) (N : List Value → Heap → Prop) (Qx : Nat → List Value → Heap → Prop) (Qr : List Value → Heap → Prop) : Prop :=
opP ((binC P .lss 3 false).f (nth l 4) (nth l 3)) fun t20 =>
wIf t20 (
opP (idxSl 65 (nth l 2) (nth l 4)) fun t21 =>
opW (loadAgg 65 t21 H) fun t22 H3 =>
wNew (zc P 123) H3 fun t4 H5 =>
opW (storeTo 65 t4 t22 H5) fun u H7 =>
opP (nilCheckA (nth l 0)) fun t24 =>
opP (offPtr 0 t24) fun t25 =>
opW (loadOne t25 H7) fun t26 H11 =>
opP (offPtr 0 t4) fun t27 =>
opW (loadOne t27 H11) fun t28 H14 =>
opP (offPtr 1 t4) fun t29 =>
opW (loadAgg 64 t29 H14) fun t30 H17 =>
opP (idxSl 129 t26 t28) fun t31 =>
opP (offPtr 0 t31) fun t32 =>
opW (storeTo 64 t32 t30 H17) fun u_1 H21 =>
opP ((binC P .add 3 true).f (nth l 4) (.int .i64 1)) fun t33 =>
N [(nth l 0), (nth l 1), (nth l 2), (nth l 3), t33] H21) (
Qx 0 [(nth l 0), (nth l 1)] H)
theorem flash_Device_Sync_L0_eq (l : List Value) (H : Heap) (N : List Value → Heap → Prop) (Qx : Nat → List Value → Heap → Prop) (Qr : List Value → Heap → Prop) : vcC P true 37 flash_Device_Sync_P0 (live flash_Device_Sync_P0 0 5) 5 (envOf (bits 37 (live flash_Device_Sync_P0 0 5)) l) H (loopQ 37 flash_Device_Sync_P0 5 N Qx Qr) = flash_Device_Sync_L0 l H N Qx Qr := by kernel_rfl
theorem flash_Device_Sync_L0_ind (I : Nat → List Value → Heap → Prop) (Qx : Nat → List Value → Heap → Prop) (Qr : List Value → Heap → Prop) (hs : ∀ k l H, I k l H → flash_Device_Sync_L0 l H (fun l H => ∃ k', k' < k ∧ I k' l H) Qx Qr) (k : Nat) (l : List Value) (H : Heap) (h : I k l H) : wLoop P true 37 flash_Device_Sync_P0 5 l H Qx Qr :=
  loop_ind (by kernel_rfl) I (fun k l H h => (flash_Device_Sync_L0_eq l H _ Qx Qr).mpr (hs k l H h)) k l H h
def flash_Device_Sync (t0 : Value) (H : Heap) (K : Value → Heap → Prop) : Prop :=
wJoin (fun J =>
opP (nilCheckA t0) fun t6 =>
opP (offPtr 4 t6) fun t7 =>
opW (loadOne t7 H) fun t8 H4 =>
wIf t8 (
opP (pickA t8 (.bool true) undef) fun t13 =>
wIf t13 (
K (.int .i64 62) H4) (
J [t0, (.int .i64 0)] H4)) (
wCall P n_flash_Device_step [t0] H4 fun t11 H7 =>
opP (unA .not t11) fun t12 =>
opP (pickA t8 (.bool true) t12) fun t13_1 =>
wIf t13_1 (
K (.int .i64 62) H7) (
J [t0, (.int .i64 0)] H7))) (fun l H11 =>
opP (nilCheckA (nth l 0)) fun t15 =>
opP (offPtr 1 t15) fun t16 =>
opW (loadOne t16 H11) fun t17 H15 =>
opW (lenSl t17 H15) fun t18 H17 =>
wLoop P true 37 flash_Device_Sync_P0 5 [(nth l 0), (nth l 1), t17, t18, (.int .i64 0)] H17 (fun id l_1 H19 =>
cond (Nat.beq id 0) (
opP (nilCheckA (nth l_1 0)) fun t35 =>
opP (offPtr 1 t35) fun t36 =>
opW (storeTo 1 t36 (.slice none 0 0) H19) fun u H23 =>
K (.int .i64 0) H23) (
False)) (fun l_1 H19 =>
K (nth l_1 1) H19))
theorem flash_Device_Sync_eq (t0 : Value) (H : Heap) (K : Value → Heap → Prop) : vcF P n_flash_Device_Sync [t0] H K = flash_Device_Sync t0 H K := by kernel_rfl
theorem flash_Device_Sync_ok {t0 : Value} {H : Heap} {K : Value → Heap → Prop} (h : flash_Device_Sync t0 H K) : wCall P n_flash_Device_Sync [t0] H K := wCall_of_vcF rfl ((flash_Device_Sync_eq t0 H K).mpr h)
def part_Map_place (t0 t1 t2 : Value) (H : Heap) (K : Value → Heap → Prop) : Prop :=
wCall P n_part_Map_has [t0, t1] H fun t11 H1 =>
opP (unA .not t11) fun t12 =>
wIf t12 (
K (.tuple [(.int .i64 0), (.int .i64 71)].toArray) H1) (
wJoin (fun J =>
opP ((binC P .lss 3 true).f t2 (.int .i64 0)) fun t15 =>
wIf t15 (
opP (pickA t15 (.bool true) undef) fun t27 =>
J [t0, t1, t2, t27] H1) (
opP (nilCheckA t0) fun t19 =>
opP (offPtr 1 t19) fun t20 =>
opW (loadOne t20 H1) fun t21 H9 =>
opP (idxSl 2 t21 t1) fun t23 =>
opP (offPtr 1 t23) fun t24 =>
opW (loadOne t24 H9) fun t25 H13 =>
opP ((binC P .geq 3 false).f t2 t25) fun t26 =>
opP (pickA t15 (.bool true) t26) fun t27_1 =>
J [t0, t1, t2, t27_1] H13)) (fun l H17 =>
wIf (nth l 3) (
K (.tuple [(.int .i64 0), (.int .i64 61)].toArray) H17) (
opP (nilCheckA (nth l 0)) fun t29 =>
opP (offPtr 1 t29) fun t30 =>
opW (loadOne t30 H17) fun t31 H21 =>
opP (idxSl 2 t31 (nth l 1)) fun t33 =>
opP (offPtr 0 t33) fun t34 =>
opW (loadOne t34 H21) fun t35 H25 =>
opP ((binC P .add 3 false).f t35 (nth l 2)) fun t37 =>
K (.tuple [t37, (.int .i64 0)].toArray) H25)))
theorem part_Map_place_eq (t0 t1 t2 : Value) (H : Heap) (K : Value → Heap → Prop) : vcF P n_part_Map_place [t0, t1, t2] H K = part_Map_place t0 t1 t2 H K := by kernel_rfl
theorem part_Map_place_ok {t0 t1 t2 : Value} {H : Heap} {K : Value → Heap → Prop} (h : part_Map_place t0 t1 t2 H K) : wCall P n_part_Map_place [t0, t1, t2] H K := wCall_of_vcF rfl ((part_Map_place_eq t0 t1 t2 H K).mpr h)
def flash_Device_Read (t0 t1 : Value) (H : Heap) (K : Value → Heap → Prop) : Prop :=
wNew (zc P 121) H fun t4 H1 =>
wCall P n_flash_Device_cell [t0, t1] H1 fun t9 H3 =>
opP ((binC P .eql 172 true).f t9 (.pointer none)) fun t11 =>
wIf t11 (
opP ((buildC P 121).f []) fun t12 =>
opW (storeTo 64 t4 t12 H3) fun u H7 =>
opW (loadAgg 64 t4 H7) fun r _ =>
K (.tuple [r, (.int .i64 61)].toArray) H7) (
opP (nilCheckA t9) fun t14 =>
opP (offPtr 64 t14) fun t15 =>
opW (loadAgg 64 t15 H3) fun t16 H12 =>
opW (storeTo 64 t4 t16 H12) fun u_1 H14 =>
opW (loadAgg 64 t4 H14) fun r_1 _ =>
K (.tuple [r_1, (.int .i64 0)].toArray) H14)
theorem flash_Device_Read_eq (t0 t1 : Value) (H : Heap) (K : Value → Heap → Prop) : vcF P n_flash_Device_Read [t0, t1] H K = flash_Device_Read t0 t1 H K := by kernel_rfl
theorem flash_Device_Read_ok {t0 t1 : Value} {H : Heap} {K : Value → Heap → Prop} (h : flash_Device_Read t0 t1 H K) : wCall P n_flash_Device_Read [t0, t1] H K := wCall_of_vcF rfl ((flash_Device_Read_eq t0 t1 H K).mpr h)
noncomputable abbrev slices_Chunk_byte_byte_1_P0 : Code := loopAt P n_slices_Chunk_byte_byte_1 0
def slices_Chunk_byte_byte_1_L0 (l : List Value) (H : Heap) (N : List Value → Heap → Prop) (Qx : Nat → List Value → Heap → Prop) (Qr : List Value → Heap → Prop) : Prop :=
opW (loadOne (nth l 1) H) fun t7 H1 =>
opW (lenSl t7 H1) fun t8 H3 =>
opP ((binC P .lss 3 false).f (nth l 3) t8) fun t9 =>
wIf t9 (
opW (loadOne (nth l 2) H3) fun t13 H6 =>
opW (loadOne (nth l 1) H6) fun t14 H8 =>
opP (sliceSl 1 t14 (some (nth l 3)) none none) fun t16 =>
opW (lenSl t16 H8) fun t17 H11 =>
opW (withH H11 (minA [t13, t17])) fun t18 H13 =>
opW (loadOne (nth l 1) H13) fun t20 H15 =>
opP ((binC P .add 3 false).f (nth l 3) t18) fun t24 =>
opP ((binC P .add 3 false).f (nth l 3) t18) fun t27 =>
opP (sliceSl 1 t20 (some (nth l 3)) (some t24) (some t27)) fun t28 =>
wTgt P (callee1 (nth l 0) [t28]) H15 fun t29 H20 =>
opP (unA .not t29) fun t30 =>
wIf t30 (
Qr [] H20) (
opW (loadOne (nth l 2) H20) fun t11 H23 =>
opP ((binC P .add 3 false).f (nth l 3) t11) fun t12 =>
N [(nth l 0), (nth l 1), (nth l 2), t12] H23)) (
Qx 0 [] H3)
theorem slices_Chunk_byte_byte_1_L0_eq (l : List Value) (H : Heap) (N : List Value → Heap → Prop) (Qx : Nat → List Value → Heap → Prop) (Qr : List Value → Heap → Prop) : vcC P true 31 slices_Chunk_byte_byte_1_P0 (live slices_Chunk_byte_byte_1_P0 0 0) 0 (envOf (bits 31 (live slices_Chunk_byte_byte_1_P0 0 0)) l) H (loopQ 31 slices_Chunk_byte_byte_1_P0 0 N Qx Qr) = slices_Chunk_byte_byte_1_L0 l H N Qx Qr := by kernel_rfl
theorem slices_Chunk_byte_byte_1_L0_ind (I : Nat → List Value → Heap → Prop) (Qx : Nat → List Value → Heap → Prop) (Qr : List Value → Heap → Prop) (hs : ∀ k l H, I k l H → slices_Chunk_byte_byte_1_L0 l H (fun l H => ∃ k', k' < k ∧ I k' l H) Qx Qr) (k : Nat) (l : List Value) (H : Heap) (h : I k l H) : wLoop P true 31 slices_Chunk_byte_byte_1_P0 0 l H Qx Qr :=
  loop_ind (by kernel_rfl) I (fun k l H h => (slices_Chunk_byte_byte_1_L0_eq l H _ Qx Qr).mpr (hs k l H h)) k l H h
def slices_Chunk_byte_byte_1 (t0 t1 t2 : Value) (H : Heap) (K : Value → Heap → Prop) : Prop :=
wLoop P true 31 slices_Chunk_byte_byte_1_P0 0 [t0, t1, t2, (.int .i64 0)] H (fun id l H1 =>
cond (Nat.beq id 0) (
K (.tuple [].toArray) H1) (
False)) (fun l H1 =>
K (.tuple [].toArray) H1)
theorem slices_Chunk_byte_byte_1_eq (t0 t1 t2 : Value) (H : Heap) (K : Value → Heap → Prop) : vcF P n_slices_Chunk_byte_byte_1 [t0, t1, t2] H K = slices_Chunk_byte_byte_1 t0 t1 t2 H K := by kernel_rfl
theorem slices_Chunk_byte_byte_1_ok {t0 t1 t2 : Value} {H : Heap} {K : Value → Heap → Prop} (h : slices_Chunk_byte_byte_1 t0 t1 t2 H K) : wCall P n_slices_Chunk_byte_byte_1 [t0, t1, t2] H K := wCall_of_vcF rfl ((slices_Chunk_byte_byte_1_eq t0 t1 t2 H K).mpr h)
noncomputable abbrev crc_Sum_P0 : Code := loopAt P n_crc_Sum 0
def crc_Sum_L0 (l : List Value) (H : Heap) (N : List Value → Heap → Prop) (Qx : Nat → List Value → Heap → Prop) (Qr : List Value → Heap → Prop) : Prop :=
opP ((binC P .lss 3 false).f (nth l 4) (nth l 3)) fun t9 =>
wIf t9 (
opP (idxSl 1 (nth l 2) (nth l 4)) fun t10 =>
opW (loadOne t10 H) fun t11 H3 =>
wCall P n_crc_More [(nth l 1), t11] H3 fun t14 H5 =>
opP ((binC P .add 3 true).f (nth l 4) (.int .i64 1)) fun t15 =>
N [(nth l 0), t14, (nth l 2), (nth l 3), t15] H5) (
Qx 0 [(nth l 0), (nth l 1)] H)
theorem crc_Sum_L0_eq (l : List Value) (H : Heap) (N : List Value → Heap → Prop) (Qx : Nat → List Value → Heap → Prop) (Qr : List Value → Heap → Prop) : vcC P true 17 crc_Sum_P0 (live crc_Sum_P0 0 12) 12 (envOf (bits 17 (live crc_Sum_P0 0 12)) l) H (loopQ 17 crc_Sum_P0 12 N Qx Qr) = crc_Sum_L0 l H N Qx Qr := by kernel_rfl
theorem crc_Sum_L0_ind (I : Nat → List Value → Heap → Prop) (Qx : Nat → List Value → Heap → Prop) (Qr : List Value → Heap → Prop) (hs : ∀ k l H, I k l H → crc_Sum_L0 l H (fun l H => ∃ k', k' < k ∧ I k' l H) Qx Qr) (k : Nat) (l : List Value) (H : Heap) (h : I k l H) : wLoop P true 17 crc_Sum_P0 12 l H Qx Qr :=
  loop_ind (by kernel_rfl) I (fun k l H h => (crc_Sum_L0_eq l H _ Qx Qr).mpr (hs k l H h)) k l H h
def crc_Sum (t0 : Value) (H : Heap) (K : Value → Heap → Prop) : Prop :=
opW (lenSl t0 H) fun t7 H1 =>
wLoop P true 17 crc_Sum_P0 12 [(.int .u32 0), (.int .u32 0), t0, t7, (.int .i64 0)] H1 (fun id l H3 =>
cond (Nat.beq id 0) (
K (nth l 1) H3) (
False)) (fun l H3 =>
K (nth l 0) H3)
theorem crc_Sum_eq (t0 : Value) (H : Heap) (K : Value → Heap → Prop) : vcF P n_crc_Sum [t0] H K = crc_Sum t0 H K := by kernel_rfl
theorem crc_Sum_ok {t0 : Value} {H : Heap} {K : Value → Heap → Prop} (h : crc_Sum t0 H K) : wCall P n_crc_Sum [t0] H K := wCall_of_vcF rfl ((crc_Sum_eq t0 H K).mpr h)
def part_Map_note (t0 t1 t2 : Value) (H : Heap) (K : Value → Heap → Prop) : Prop :=
wNew (cellsL t1) H fun t4 H1 =>
opP ((binC P .eql 24 true).f t2 (.int .i64 0)) fun t8 =>
wIf t8 (
opP (nilCheckA t0) fun t10 =>
opP (offPtr 2 t10) fun t11 =>
opW (loadOne t11 H1) fun t12 H6 =>
opP (offPtr 3 t4) fun t13 =>
opW (storeTo 1 t13 t12 H6) fun u H9 =>
opP (nilCheckA t0) fun t16 =>
opP (offPtr 3 t16) fun t17 =>
opW (loadOne t17 H9) fun t18 H13 =>
opW (loadAgg 4 t4 H13) fun t19 H15 =>
opW ((buildSliceC P 113 1).f [(0, t19)] H15) fun t20 H17 =>
opW (appendWith 4 32 t18 t20 H17) fun t21 H19 =>
opP (nilCheckA t0) fun t22 =>
opP (offPtr 3 t22) fun t23 =>
opW (storeTo 1 t23 t21 H19) fun u_1 H23 =>
K t2 H23) (
K t2 H1)
theorem part_Map_note_eq (t0 t1 t2 : Value) (H : Heap) (K : Value → Heap → Prop) : vcF P n_part_Map_note [t0, t1, t2] H K = part_Map_note t0 t1 t2 H K := by kernel_rfl
theorem part_Map_note_ok {t0 t1 t2 : Value} {H : Heap} {K : Value → Heap → Prop} (h : part_Map_note t0 t1 t2 H K) : wCall P n_part_Map_note [t0, t1, t2] H K := wCall_of_vcF rfl ((part_Map_note_eq t0 t1 t2 H K).mpr h)
def flash_Device_Program (t0 t1 t2 : Value) (H : Heap) (K : Value → Heap → Prop) : Prop :=
wNew (cellsL t2) H fun t5 H1 =>
wCall P n_flash_Device_cell [t0, t1] H1 fun t10 H3 =>
opP ((binC P .eql 172 true).f t10 (.pointer none)) fun t13 =>
wIf t13 (
K (.int .i64 61) H3) (
opP (nilCheckA t0) fun t16 =>
opP (offPtr 4 t16) fun t17 =>
opW (loadOne t17 H3) fun t18 H8 =>
wIf t18 (
K (.int .i64 62) H8) (
opP (nilCheckA t10) fun t21 =>
opP (offPtr 64 t21) fun t22 =>
opW (loadAgg 64 t22 H8) fun t23 H12 =>
wCall P n_flash_Blank [] H12 fun t24 H14 =>
cSame (sameB H12 H14) (idsOf [t22]) ∧ (opP ((binC P .neq 121 false).f t23 t24) fun t25 =>
wIf t25 (
K (.int .i64 63) H14) (
wCall P n_flash_Device_step [t0] H14 fun t28 H17 =>
opP (unA .not t28) fun t29 =>
wIf t29 (
K (.int .i64 62) H17) (
opW (loadAgg 64 t5 H17) fun t32 H20 =>
wCall P n_flash_Device_set [t0, t1, t32] H20 fun t33 H22 =>
K (.int .i64 0) H22)))))
theorem flash_Device_Program_eq (t0 t1 t2 : Value) (H : Heap) (K : Value → Heap → Prop) : vcF P n_flash_Device_Program [t0, t1, t2] H K = flash_Device_Program t0 t1 t2 H K := by kernel_rfl
theorem flash_Device_Program_ok {t0 t1 t2 : Value} {H : Heap} {K : Value → Heap → Prop} (h : flash_Device_Program t0 t1 t2 H K) : wCall P n_flash_Device_Program [t0, t1, t2] H K := wCall_of_vcF rfl ((flash_Device_Program_eq t0 t1 t2 H K).mpr h)
def flash_Device_Erase (t0 t1 : Value) (H : Heap) (K : Value → Heap → Prop) : Prop :=
wCall P n_flash_Device_cell [t0, t1] H fun t8 H1 =>
opP ((binC P .eql 172 true).f t8 (.pointer none)) fun t11 =>
wIf t11 (
K (.int .i64 61) H1) (
opP (nilCheckA t0) fun t14 =>
opP (offPtr 4 t14) fun t15 =>
opW (loadOne t15 H1) fun t16 H6 =>
wIf t16 (
K (.int .i64 62) H6) (
opP (nilCheckA t8) fun t19 =>
opP (offPtr 128 t19) fun t20 =>
opW (loadOne t20 H6) fun t21 H10 =>
opP (nilCheckA t0) fun t23 =>
opP (offPtr 2 t23) fun t24 =>
opW (loadOne t24 H10) fun t25 H14 =>
opP ((binC P .geq 3 false).f t21 t25) fun t26 =>
wIf t26 (
K (.int .i64 64) H14) (
wCall P n_flash_Device_step [t0] H14 fun t29 H17 =>
opP (unA .not t29) fun t30 =>
wIf t30 (
K (.int .i64 62) H17) (
opP (nilCheckA t8) fun t32 =>
opP (offPtr 128 t32) fun t33 =>
opW (loadOne t33 H17) fun t34 H22 =>
opP ((binC P .add 3 true).f t34 (.int .i64 1)) fun t35 =>
opP (nilCheckA t8) fun t36 =>
opP (offPtr 128 t36) fun t37 =>
opW (storeTo 1 t37 t35 H22) fun u H27 =>
wCall P n_flash_Blank [] H27 fun t40 H29 =>
wCall P n_flash_Device_set [t0, t1, t40] H29 fun t41 H31 =>
K (.int .i64 0) H31))))
theorem flash_Device_Erase_eq (t0 t1 : Value) (H : Heap) (K : Value → Heap → Prop) : vcF P n_flash_Device_Erase [t0, t1] H K = flash_Device_Erase t0 t1 H K := by kernel_rfl
theorem flash_Device_Erase_ok {t0 t1 : Value} {H : Heap} {K : Value → Heap → Prop} (h : flash_Device_Erase t0 t1 H K) : wCall P n_flash_Device_Erase [t0, t1] H K := wCall_of_vcF rfl ((flash_Device_Erase_eq t0 t1 H K).mpr h)
def flash_Device_step (t0 : Value) (H : Heap) (K : Value → Heap → Prop) : Prop :=
wJoin (fun J =>
opP (nilCheckA t0) fun t5 =>
opP (offPtr 4 t5) fun t6 =>
opW (loadOne t6 H) fun t7 H4 =>
wIf t7 (
opP (pickA t7 (.bool true) undef) fun t14 =>
opP (nilCheckA t0) fun t15 =>
opP (offPtr 4 t15) fun t16 =>
opW (storeTo 1 t16 t14 H4) fun u H9 =>
J [t0] H9) (
opP (nilCheckA t0) fun t10 =>
opP (offPtr 3 t10) fun t11 =>
opW (loadOne t11 H4) fun t12 H13 =>
opP ((binC P .eql 3 true).f t12 (.int .i64 0)) fun t13 =>
opP (pickA t7 (.bool true) t13) fun t14_1 =>
opP (nilCheckA t0) fun t15_1 =>
opP (offPtr 4 t15_1) fun t16_1 =>
opW (storeTo 1 t16_1 t14_1 H13) fun u_1 H19 =>
J [t0] H19)) (fun l H21 =>
wJoin (fun J_1 =>
wJoin (fun J_2 =>
opP (nilCheckA (nth l 0)) fun t18 =>
opP (offPtr 4 t18) fun t19 =>
opW (loadOne t19 H21) fun t20 H27 =>
opP (unA .not t20) fun t21 =>
wIf t21 (
opP (nilCheckA (nth l 0)) fun t24 =>
opP (offPtr 3 t24) fun t25 =>
opW (loadOne t25 H27) fun t26 H32 =>
opP ((binC P .gtr 3 true).f t26 (.int .i64 0)) fun t27 =>
opP (pickA t21 t27 (.bool false)) fun t28 =>
J_2 [(nth l 0), t28] H32) (
opP (pickA t21 undef (.bool false)) fun t28_1 =>
J_2 [(nth l 0), t28_1] H27)) (fun l_1 H37 =>
wIf (nth l_1 1) (
opP (nilCheckA (nth l_1 0)) fun t30 =>
opP (offPtr 3 t30) fun t31 =>
opW (loadOne t31 H37) fun t32 H41 =>
opP ((binC P .sub 3 true).f t32 (.int .i64 1)) fun t33 =>
opP (nilCheckA (nth l_1 0)) fun t34 =>
opP (offPtr 3 t34) fun t35 =>
opW (storeTo 1 t35 t33 H41) fun u_2 H46 =>
J_1 [(nth l_1 0)] H46) (
J_1 [(nth l_1 0)] H37))) (fun l_2 H48 =>
opP (nilCheckA (nth l_2 0)) fun t37 =>
opP (offPtr 4 t37) fun t38 =>
opW (loadOne t38 H48) fun t39 H52 =>
opP (unA .not t39) fun t40 =>
K t40 H52))
theorem flash_Device_step_eq (t0 : Value) (H : Heap) (K : Value → Heap → Prop) : vcF P n_flash_Device_step [t0] H K = flash_Device_step t0 H K := by kernel_rfl
theorem flash_Device_step_ok {t0 : Value} {H : Heap} {K : Value → Heap → Prop} (h : flash_Device_step t0 H K) : wCall P n_flash_Device_step [t0] H K := wCall_of_vcF rfl ((flash_Device_step_eq t0 H K).mpr h)
def flash_Device_cell (t0 t1 : Value) (H : Heap) (K : Value → Heap → Prop) : Prop :=
wJoin (fun J =>
opP ((binC P .lss 3 true).f t1 (.int .i64 0)) fun t6 =>
wIf t6 (
opP (pickA t6 (.bool true) undef) fun t15 =>
wIf t15 (
K (.pointer none) H) (
J [t0, t1] H)) (
opP (nilCheckA t0) fun t10 =>
opP (offPtr 0 t10) fun t11 =>
opW (loadOne t11 H) fun t12 H6 =>
opW (lenSl t12 H6) fun t13 H8 =>
opP ((binC P .geq 3 false).f t1 t13) fun t14 =>
opP (pickA t6 (.bool true) t14) fun t15_1 =>
wIf t15_1 (
K (.pointer none) H8) (
J [t0, t1] H8))) (fun l H12 =>
opP (nilCheckA (nth l 0)) fun t17 =>
opP (offPtr 0 t17) fun t18 =>
opW (loadOne t18 H12) fun t19 H16 =>
opP (idxSl 129 t19 (nth l 1)) fun t21 =>
K t21 H16)
theorem flash_Device_cell_eq (t0 t1 : Value) (H : Heap) (K : Value → Heap → Prop) : vcF P n_flash_Device_cell [t0, t1] H K = flash_Device_cell t0 t1 H K := by kernel_rfl
theorem flash_Device_cell_ok {t0 t1 : Value} {H : Heap} {K : Value → Heap → Prop} (h : flash_Device_cell t0 t1 H K) : wCall P n_flash_Device_cell [t0, t1] H K := wCall_of_vcF rfl ((flash_Device_cell_eq t0 t1 H K).mpr h)
noncomputable abbrev crc_More_P0 : Code := loopAt P n_crc_More 0
def crc_More_L0 (l : List Value) (H : Heap) (N : List Value → Heap → Prop) (Qx : Nat → List Value → Heap → Prop) (Qr : List Value → Heap → Prop) : Prop :=
opP ((binC P .lss 3 false).f (nth l 4) (nth l 3)) fun t13 =>
wIf t13 (
opP (idxSl 1 (nth l 2) (nth l 4)) fun t14 =>
opW (loadOne t14 H) fun t15 H3 =>
opW (cvInt .u32 t15 H3) fun t18 H5 =>
opP ((binC P .xor 166 false).f (nth l 1) t18) fun t19 =>
wCall P n_crc_step [t19] H5 fun t20 H8 =>
opP ((binC P .add 3 true).f (nth l 4) (.int .i64 1)) fun t21 =>
N [(nth l 0), t20, (nth l 2), (nth l 3), t21] H8) (
Qx 0 [(nth l 0), (nth l 1)] H)
theorem crc_More_L0_eq (l : List Value) (H : Heap) (N : List Value → Heap → Prop) (Qx : Nat → List Value → Heap → Prop) (Qr : List Value → Heap → Prop) : vcC P true 24 crc_More_P0 (live crc_More_P0 0 48) 48 (envOf (bits 24 (live crc_More_P0 0 48)) l) H (loopQ 24 crc_More_P0 48 N Qx Qr) = crc_More_L0 l H N Qx Qr := by kernel_rfl
theorem crc_More_L0_ind (I : Nat → List Value → Heap → Prop) (Qx : Nat → List Value → Heap → Prop) (Qr : List Value → Heap → Prop) (hs : ∀ k l H, I k l H → crc_More_L0 l H (fun l H => ∃ k', k' < k ∧ I k' l H) Qx Qr) (k : Nat) (l : List Value) (H : Heap) (h : I k l H) : wLoop P true 24 crc_More_P0 48 l H Qx Qr :=
  loop_ind (by kernel_rfl) I (fun k l H h => (crc_More_L0_eq l H _ Qx Qr).mpr (hs k l H h)) k l H h
def crc_More (t0 t1 : Value) (H : Heap) (K : Value → Heap → Prop) : Prop :=
opP (unA .xor t0) fun t9 =>
opW (lenSl t1 H) fun t11 H2 =>
wLoop P true 24 crc_More_P0 48 [(.int .u32 0), t9, t1, t11, (.int .i64 0)] H2 (fun id l H4 =>
cond (Nat.beq id 0) (
opP (unA .xor (nth l 1)) fun t23 =>
K t23 H4) (
False)) (fun l H4 =>
K (nth l 0) H4)
theorem crc_More_eq (t0 t1 : Value) (H : Heap) (K : Value → Heap → Prop) : vcF P n_crc_More [t0, t1] H K = crc_More t0 t1 H K := by kernel_rfl
theorem crc_More_ok {t0 t1 : Value} {H : Heap} {K : Value → Heap → Prop} (h : crc_More t0 t1 H K) : wCall P n_crc_More [t0, t1] H K := wCall_of_vcF rfl ((crc_More_eq t0 t1 H K).mpr h)
def flash_Device_set (t0 t1 t2 : Value) (H : Heap) (K : Value → Heap → Prop) : Prop :=
wNew (cellsL t2) H fun t5 H1 =>
opP (nilCheckA t0) fun t7 =>
opP (offPtr 0 t7) fun t8 =>
opW (loadOne t8 H1) fun t9 H5 =>
opW (loadAgg 64 t5 H5) fun t11 H7 =>
opP (idxSl 129 t9 t1) fun t12 =>
opP (offPtr 64 t12) fun t13 =>
opW (storeTo 64 t13 t11 H7) fun u H11 =>
opP (nilCheckA t0) fun t16 =>
opP (offPtr 1 t16) fun t17 =>
opW (loadOne t17 H11) fun t18 H15 =>
opW (loadAgg 64 t5 H15) fun t20 H17 =>
opP ((buildC P 123).f [(0, t1), (1, t20)]) fun t21 =>
opW ((buildSliceC P 117 1).f [(0, t21)] H17) fun t22 H20 =>
opW (appendWith 65 72 t18 t22 H20) fun t23 H22 =>
opP (nilCheckA t0) fun t24 =>
opP (offPtr 1 t24) fun t25 =>
opW (storeTo 1 t25 t23 H22) fun u_1 H26 =>
K (.tuple [].toArray) H26
theorem flash_Device_set_eq (t0 t1 t2 : Value) (H : Heap) (K : Value → Heap → Prop) : vcF P n_flash_Device_set [t0, t1, t2] H K = flash_Device_set t0 t1 t2 H K := by kernel_rfl
theorem flash_Device_set_ok {t0 t1 t2 : Value} {H : Heap} {K : Value → Heap → Prop} (h : flash_Device_set t0 t1 t2 H K) : wCall P n_flash_Device_set [t0, t1, t2] H K := wCall_of_vcF rfl ((flash_Device_set_eq t0 t1 t2 H K).mpr h)
noncomputable abbrev crc_step_P0 : Code := loopAt P n_crc_step 0
def crc_step_L0 (l : List Value) (H : Heap) (N : List Value → Heap → Prop) (Qx : Nat → List Value → Heap → Prop) (Qr : List Value → Heap → Prop) : Prop :=
opP ((binC P .lss 3 true).f (nth l 2) (.int .i64 8)) fun t4 =>
wIf t4 (
opP ((binC P .shr 166 true).f (nth l 0) (.int .u64 1)) fun t6 =>
opP ((binC P .and 166 true).f (nth l 0) (.int .u32 1)) fun t8 =>
opP (unA .neg t8) fun t9 =>
opP ((binC P .and 166 true).f (.int .u32 3988292384) t9) fun t10 =>
opP ((binC P .xor 166 false).f t6 t10) fun t11 =>
opP ((binC P .add 3 true).f (nth l 2) (.int .i64 1)) fun t12 =>
N [t11, (nth l 1), t12] H) (
Qx 0 [(nth l 0), (nth l 1)] H)
theorem crc_step_L0_eq (l : List Value) (H : Heap) (N : List Value → Heap → Prop) (Qx : Nat → List Value → Heap → Prop) (Qr : List Value → Heap → Prop) : vcC P true 14 crc_step_P0 (live crc_step_P0 0 5) 5 (envOf (bits 14 (live crc_step_P0 0 5)) l) H (loopQ 14 crc_step_P0 5 N Qx Qr) = crc_step_L0 l H N Qx Qr := by kernel_rfl
theorem crc_step_L0_ind (I : Nat → List Value → Heap → Prop) (Qx : Nat → List Value → Heap → Prop) (Qr : List Value → Heap → Prop) (hs : ∀ k l H, I k l H → crc_step_L0 l H (fun l H => ∃ k', k' < k ∧ I k' l H) Qx Qr) (k : Nat) (l : List Value) (H : Heap) (h : I k l H) : wLoop P true 14 crc_step_P0 5 l H Qx Qr :=
  loop_ind (by kernel_rfl) I (fun k l H h => (crc_step_L0_eq l H _ Qx Qr).mpr (hs k l H h)) k l H h
def crc_step (t0 : Value) (H : Heap) (K : Value → Heap → Prop) : Prop :=
wLoop P true 14 crc_step_P0 5 [t0, (.int .u32 0), (.int .i64 0)] H (fun id l H1 =>
cond (Nat.beq id 0) (
K (nth l 0) H1) (
False)) (fun l H1 =>
K (nth l 1) H1)
theorem crc_step_eq (t0 : Value) (H : Heap) (K : Value → Heap → Prop) : vcF P n_crc_step [t0] H K = crc_step t0 H K := by kernel_rfl
theorem crc_step_ok {t0 : Value} {H : Heap} {K : Value → Heap → Prop} (h : crc_step t0 H K) : wCall P n_crc_step [t0] H K := wCall_of_vcF rfl ((crc_step_eq t0 H K).mpr h)
end
end J
