/- texts of the proof, one behind the other -/
import Derived.Test.YtgcklljdiidgmaaProg
import Derived.KernelRfl
import Derived.Test.YtgcklljdiidgmaaJA
set_option linter.unusedVariables false
set_option maxRecDepth 100000
namespace J
open Go Go.Ab
noncomputable abbrev P : Program := Go.Proofs.Try.prog
noncomputable section
abbrev n_law09_JournalBanks : Nat := 4
abbrev n_law09_JournalHolds : Nat := 5
abbrev n_law09_journalAlive : Nat := 6
abbrev n_journal_Open : Nat := 7
abbrev n_law09_open : Nat := 8
abbrev n_journal_Journal_Append : Nat := 9
abbrev n_journal_Journal_Begin : Nat := 10
abbrev n_journal_Journal_Fits : Nat := 11
abbrev n_part_Map_Ops : Nat := 12
abbrev n_journal_Journal_Last : Nat := 13
abbrev n_part_Map_Device : Nat := 14
abbrev n_flash_Device_Budget : Nat := 15
abbrev n_flash_Device_Restart : Nat := 16
abbrev n_law09_same : Nat := 17
abbrev n_journal_Journal_Left : Nat := 19
abbrev n_journal_stands : Nat := 20
abbrev n_part_New : Nat := 21
abbrev n_flash_New : Nat := 22
abbrev n_frame_Put : Nat := 23
abbrev n_journal_Journal_write : Nat := 24
abbrev n_part_Map_Wipe : Nat := 25
abbrev n_part_Map_Sync : Nat := 26
abbrev n_frame_Size : Nat := 27
abbrev n_part_Map_Size : Nat := 28
abbrev n_journal_sectors : Nat := 29
abbrev n_frame_Get : Nat := 30
abbrev n_flash_Device_Size : Nat := 31
abbrev n_flash_Blank : Nat := 32
abbrev n_slices_Chunk_byte_byte : Nat := 33
abbrev n_frame_sealed : Nat := 34
abbrev n_part_Map_Program : Nat := 35
abbrev n_part_Map_has : Nat := 36
abbrev n_part_Map_Read : Nat := 37
abbrev n_part_Map_Erase : Nat := 38
abbrev n_flash_Device_Sync : Nat := 39
abbrev n_code_New : Nat := 40
abbrev n_code_Reader_Raw : Nat := 41
abbrev n_code_Reader_Fixed : Nat := 42
abbrev n_frame_plain : Nat := 43
abbrev n_slices_Equal_api_Sector_api_Sector : Nat := 44
abbrev n_slices_Clone_byte_byte : Nat := 45
abbrev n_slices_Chunk_byte_byte_1 : Nat := 46
abbrev n_code_Raw : Nat := 47
abbrev n_code_Fixed : Nat := 48
abbrev n_crc_Sum : Nat := 49
abbrev n_part_Map_place : Nat := 50
abbrev n_part_Map_note : Nat := 51
abbrev n_flash_Device_Program : Nat := 52
abbrev n_flash_Device_Read : Nat := 53
abbrev n_flash_Device_Erase : Nat := 54
abbrev n_flash_Device_step : Nat := 55
abbrev n_code_Reader_take : Nat := 56
abbrev n_slices_Backward_byte_byte : Nat := 57
abbrev n_code_within : Nat := 58
abbrev n_slices_Concat_byte_byte : Nat := 59
abbrev n_crc_More : Nat := 60
abbrev n_flash_Device_cell : Nat := 61
abbrev n_flash_Device_set : Nat := 62
abbrev n_code_Reader_fail : Nat := 63
abbrev n_slices_Backward_byte_byte_1 : Nat := 64
abbrev n_slices_Grow_byte_byte : Nat := 65
abbrev n_crc_step : Nat := 66
instance : Orc := orc1 n_law09_journalAlive
theorem law09_journalAlive_spec {H : Heap} {K : Value → Heap → Prop} (hk : K (.bool true) H) : wCall P n_law09_journalAlive [] H K := ⟨1, .ret, _, H, rfl, hk⟩
/-! bootjack/bootjacklaw09.JournalBanks -/
noncomputable abbrev law09_JournalBanks_P0 : Code := loopAt P n_law09_JournalBanks 0
noncomputable abbrev law09_JournalBanks_P1 : Code := loopAt P n_law09_JournalBanks 1
/-- loop 0: goes on from the slots [2, 3, 4, 24, 25, 26]; leaves [2] -/
def law09_JournalBanks_L0 (l : List Value) (H : Heap) (N : List Value → Heap → Prop) (Qx : Nat → List Value → Heap → Prop) (Qr : List Value → Heap → Prop) : Prop :=
opP ((binC P .lss 3 false).f (nth l 5) (nth l 4)) fun t27 =>
wIf t27 (
opP (idxSl 1 (nth l 3) (nth l 5)) fun t29 =>
opW (loadOne t29 H) fun t30 H3 =>
opW (lenSl t30 H3) fun t32 H5 =>
opP ((binC P .gtr 3 true).f t32 (.int .i64 400)) fun t33 =>
wIf t33 (
Qr [(.bool true)] H5) (
wCall P n_part_Map_Ops [(nth l 1)] H5 fun t35 H8 =>
wJoin (fun J =>
wCall P n_journal_Journal_Begin [(nth l 2), t30] H8 fun t38 H11 =>
opP ((binC P .neq 30 true).f t38 (.int .i64 0)) fun t39 =>
wIf t39 (
opP (pickA t39 (.bool true) undef) fun t47 =>
wIf t47 (
Qr [(.bool false)] H11) (
J [(nth l 0), (nth l 1), (nth l 2), (nth l 5), t30, (nth l 3), (nth l 4), (nth l 5)] H11)) (
wCall P n_journal_Journal_Last [(nth l 2)] H11 fun t42 H15 =>
opP ((binC P .add 3 true).f (nth l 5) (.int .i64 1)) fun t44 =>
opW (cvInt .u64 t44 H15) fun t45 H18 =>
opP ((binC P .neq 36 false).f t42 t45) fun t46 =>
opP (pickA t39 (.bool true) t46) fun t47_1 =>
wIf t47_1 (
Qr [(.bool false)] H18) (
J [(nth l 0), (nth l 1), (nth l 2), (nth l 5), t30, (nth l 3), (nth l 4), (nth l 5)] H18))) (fun l_1 H22 =>
wCall P n_part_Map_Ops [(nth l_1 1)] H22 fun t49 H24 =>
opW (lenSl t49 H24) fun t50 H26 =>
wLoop P true 79 law09_JournalBanks_P1 117440668 [(nth l_1 0), (nth l_1 1), (nth l_1 2), (nth l_1 3), (nth l_1 4), (nth l_1 5), (nth l_1 6), (nth l_1 7), t49, t50, (.int .i64 0)] H26 (fun id l_2 H28 =>
cond (Nat.beq id 2) (
wCall P n_journal_Open [(nth l_2 1), (.int .i64 0), (.int .i64 1)] H28 fun t63 H30 =>
opP (extA 0 t63) fun t64 =>
opP (extA 1 t63) fun t65 =>
opW (lenSl t65 H30) fun t67 H34 =>
opP ((binC P .neq 3 true).f t67 (.int .i64 1)) fun t68 =>
wIf t68 (
opP (pickA t68 (.bool true) undef) fun t77 =>
wIf t77 (
Qr [(.bool false)] H34) (
opP ((binC P .add 3 true).f (nth l_2 6) (.int .i64 1)) fun t78 =>
N [(nth l_2 0), (nth l_2 1), (nth l_2 2), (nth l_2 4), (nth l_2 5), t78] H34)) (
opP (idxSl 1 t65 (.int .i64 0)) fun t71 =>
opW (loadOne t71 H34) fun t72 H40 =>
opW (bytesToStr t72 H40) fun t73 H42 =>
opW (bytesToStr (nth l_2 3) H42) fun t75 H44 =>
opP ((binC P .neq 9 false).f t73 t75) fun t76 =>
opP (pickA t68 (.bool true) t76) fun t77_1 =>
wIf t77_1 (
Qr [(.bool false)] H44) (
opP ((binC P .add 3 true).f (nth l_2 6) (.int .i64 1)) fun t78_1 =>
N [(nth l_2 0), (nth l_2 1), (nth l_2 2), (nth l_2 4), (nth l_2 5), t78_1] H44))) (
cond (Nat.beq id 1) (
opP ((binC P .add 3 true).f (nth l_2 6) (.int .i64 1)) fun t78_2 =>
N [(nth l_2 0), (nth l_2 1), (nth l_2 2), (nth l_2 4), (nth l_2 5), t78_2] H28) (
Qx id [(nth l_2 0)] H28))) (fun l_2 H28 =>
Qr [(nth l_2 0)] H28)))) (
Qx 0 [(nth l 0)] H)
theorem law09_JournalBanks_L0_eq (l : List Value) (H : Heap) (N : List Value → Heap → Prop) (Qx : Nat → List Value → Heap → Prop) (Qr : List Value → Heap → Prop) : vcC P true 79 law09_JournalBanks_P0 (live law09_JournalBanks_P0 0 4) 4 (envOf (bits 79 (live law09_JournalBanks_P0 0 4)) l) H (loopQ 79 law09_JournalBanks_P0 4 N Qx Qr) = law09_JournalBanks_L0 l H N Qx Qr := by kernel_rfl
theorem law09_JournalBanks_L0_ind (I : Nat → List Value → Heap → Prop) (Qx : Nat → List Value → Heap → Prop) (Qr : List Value → Heap → Prop) (hs : ∀ k l H, I k l H → law09_JournalBanks_L0 l H (fun l H => ∃ k', k' < k ∧ I k' l H) Qx Qr) (k : Nat) (l : List Value) (H : Heap) (h : I k l H) : wLoop P true 79 law09_JournalBanks_P0 4 l H Qx Qr :=
  loop_ind (by kernel_rfl) I (fun k l H h => (law09_JournalBanks_L0_eq l H _ Qx Qr).mpr (hs k l H h)) k l H h

/-- loop 1: goes on from the slots [2, 3, 4, 6, 7, 24, 25, 26, 49, 50, 51]; leaves [2, 3, 4, 7, 24, 25, 26] -/
def law09_JournalBanks_L1 (l : List Value) (H : Heap) (N : List Value → Heap → Prop) (Qx : Nat → List Value → Heap → Prop) (Qr : List Value → Heap → Prop) : Prop :=
opP ((binC P .lss 3 false).f (nth l 10) (nth l 9)) fun t52 =>
wIf t52 (
opP (idxSl 4 (nth l 8) (nth l 10)) fun t53 =>
opW (loadAgg 4 t53 H) fun t54 H3 =>
wNew (zc P 39) H3 fun t9 H5 =>
opW (storeTo 4 t9 t54 H5) fun u H7 =>
opP (offPtr 1 t9) fun t55 =>
opW (loadOne t55 H7) fun t56 H10 =>
opP ((binC P .rem 3 true).f (nth l 3) (.int .i64 2)) fun t58 =>
opP ((binC P .neq 3 false).f t56 t58) fun t59 =>
wIf t59 (
Qr [(.bool false), (nth l 1), (nth l 2), (nth l 4), (nth l 5), (nth l 6), (nth l 7)] H10) (
opP ((binC P .add 3 true).f (nth l 10) (.int .i64 1)) fun t60 =>
N [(nth l 0), (nth l 1), (nth l 2), (nth l 3), (nth l 4), (nth l 5), (nth l 6), (nth l 7), (nth l 8), (nth l 9), t60] H10)) (
Qx 2 [(nth l 0), (nth l 1), (nth l 2), (nth l 4), (nth l 5), (nth l 6), (nth l 7)] H)
theorem law09_JournalBanks_L1_eq (l : List Value) (H : Heap) (N : List Value → Heap → Prop) (Qx : Nat → List Value → Heap → Prop) (Qr : List Value → Heap → Prop) : vcC P true 79 law09_JournalBanks_P1 (live law09_JournalBanks_P1 0 117440668) 117440668 (envOf (bits 79 (live law09_JournalBanks_P1 0 117440668)) l) H (loopQ 79 law09_JournalBanks_P1 117440668 N Qx Qr) = law09_JournalBanks_L1 l H N Qx Qr := by kernel_rfl
theorem law09_JournalBanks_L1_ind (I : Nat → List Value → Heap → Prop) (Qx : Nat → List Value → Heap → Prop) (Qr : List Value → Heap → Prop) (hs : ∀ k l H, I k l H → law09_JournalBanks_L1 l H (fun l H => ∃ k', k' < k ∧ I k' l H) Qx Qr) (k : Nat) (l : List Value) (H : Heap) (h : I k l H) : wLoop P true 79 law09_JournalBanks_P1 117440668 l H Qx Qr :=
  loop_ind (by kernel_rfl) I (fun k l H h => (law09_JournalBanks_L1_eq l H _ Qx Qr).mpr (hs k l H h)) k l H h
def law09_JournalBanks (t0 : Value) (H : Heap) (K : Value → Heap → Prop) : Prop :=
wCall P n_law09_journalAlive [] H fun t12 H1 =>
opP (unA .not t12) fun t13 =>
wIf t13 (
K (.bool false) H1) (
opW (lenSl t0 H1) fun t15 H4 =>
opP ((binC P .gtr 3 true).f t15 (.int .i64 20)) fun t16 =>
wIf t16 (
K (.bool true) H4) (
opP ((buildC P 29).f [(0, (.int .i64 20)), (1, (.int .i64 20))]) fun t17 =>
wCall P n_law09_open [t17] H4 fun t18 H8 =>
wCall P n_journal_Open [t18, (.int .i64 0), (.int .i64 1)] H8 fun t21 H10 =>
opP (extA 0 t21) fun t22 =>
opP (extA 1 t21) fun t23 =>
opW (lenSl t0 H10) fun t25 H14 =>
wLoop P true 79 law09_JournalBanks_P0 4 [(.bool false), t18, t22, t0, t25, (.int .i64 0)] H14 (fun id l H16 =>
cond (Nat.beq id 0) (
K (.bool true) H16) (
False)) (fun l H16 =>
K (nth l 0) H16)))
theorem law09_JournalBanks_eq (t0 : Value) (H : Heap) (K : Value → Heap → Prop) : vcF P n_law09_JournalBanks [t0] H K = law09_JournalBanks t0 H K := by kernel_rfl
theorem law09_JournalBanks_ok {t0 : Value} {H : Heap} {K : Value → Heap → Prop} (h : law09_JournalBanks t0 H K) : wCall P n_law09_JournalBanks [t0] H K := wCall_of_vcF rfl ((law09_JournalBanks_eq t0 H K).mpr h)

/-! bootjack/bootjacklaw09.JournalHolds -/
noncomputable abbrev law09_JournalHolds_P0 : Code := loopAt P n_law09_JournalHolds 0
noncomputable abbrev law09_JournalHolds_P1 : Code := loopAt P n_law09_JournalHolds 1
noncomputable abbrev law09_JournalHolds_P2 : Code := loopAt P n_law09_JournalHolds 2
/-- loop 0: goes on from the slots [4, 5, 6, 8, 9, 56, 57, 58]; leaves [4] -/
def law09_JournalHolds_L0 (l : List Value) (H : Heap) (N : List Value → Heap → Prop) (Qx : Nat → List Value → Heap → Prop) (Qr : List Value → Heap → Prop) : Prop :=
opP ((binC P .lss 3 false).f (nth l 7) (nth l 6)) fun t59 =>
wIf t59 (
opP (idxSl 6 (nth l 5) (nth l 7)) fun t60 =>
opW (loadAgg 6 t60 H) fun t61 H3 =>
wNew (zc P 45) H3 fun t11 H5 =>
opW (storeTo 6 t11 t61 H5) fun u H7 =>
opP (offPtr 3 t11) fun t62 =>
opW (loadOne t62 H7) fun t63 H10 =>
opW (lenSl t63 H10) fun t64 H12 =>
opP ((binC P .gtr 3 true).f t64 (.int .i64 400)) fun t65 =>
wIf t65 (
Qr [(.bool true)] H12) (
opP (offPtr 0 t11) fun t66 =>
opW (loadOne t66 H12) fun t67 H16 =>
opP ((binC P .eql 3 true).f t67 (.int .i64 0)) fun t111 =>
wIf t111 (
opP (offPtr 3 t11) fun t113 =>
opW (loadOne t113 H16) fun t114 H20 =>
wCall P n_journal_Journal_Begin [(nth l 2), t114] H20 fun t115 H22 =>
opP ((binC P .eql 30 true).f t115 (.int .i64 0)) fun t117 =>
wIf t117 (
opP (offPtr 3 t11) fun t118 =>
opW (loadOne t118 H22) fun t119 H26 =>
opW (bytesToStr t119 H26) fun t120 H28 =>
opW ((buildSliceC P 42 1).f [(0, t120)] H28) fun t121 H30 =>
opP ((binC P .add 3 true).f (nth l 7) (.int .i64 1)) fun t161 =>
N [(nth l 0), (nth l 1), (nth l 2), t121, (nth l 4), (nth l 5), (nth l 6), t161] H30) (
opP ((binC P .eql 30 true).f t115 (.int .i64 62)) fun t123 =>
wIf t123 (
opP (offPtr 3 t11) fun t125 =>
opW (loadOne t125 H22) fun t126 H35 =>
opW (bytesToStr t126 H35) fun t127 H37 =>
opW ((buildSliceC P 42 1).f [(0, t127)] H37) fun t128 H39 =>
opW ((buildSliceC P 43 1).f [(0, t128)] H39) fun t129 H41 =>
opW (appendWith 1 24 (nth l 4) t129 H41) fun t130 H43 =>
opP ((binC P .add 3 true).f (nth l 7) (.int .i64 1)) fun t161_1 =>
N [(nth l 0), (nth l 1), (nth l 2), (nth l 3), t130, (nth l 5), (nth l 6), t161_1] H43) (
opP ((binC P .add 3 true).f (nth l 7) (.int .i64 1)) fun t161_2 =>
N [(nth l 0), (nth l 1), (nth l 2), (nth l 3), (nth l 4), (nth l 5), (nth l 6), t161_2] H22))) (
opP ((binC P .eql 3 true).f t67 (.int .i64 1)) fun t132 =>
wIf t132 (
opP (offPtr 3 t11) fun t134 =>
opW (loadOne t134 H16) fun t135 H49 =>
wCall P n_journal_Journal_Append [(nth l 2), t135] H49 fun t136 H51 =>
opW ((buildSliceC P 42 0).f [] H51) fun t137 H53 =>
opW (appendWith 1 16 t137 (nth l 3) H53) fun t139 H55 =>
opP (offPtr 3 t11) fun t140 =>
opW (loadOne t140 H55) fun t141 H58 =>
cApart (idsOf [t137, (nth l 3)]) (idsOf [t140]) ∧ cOut (idsOf [t140]) H53.next H55.next ∧ (cOut (idsOf [t140]) H51.next H53.next ∧ (opW (bytesToStr t141 H58) fun t142 H60 =>
cApart (idsOf [t137, (nth l 3)]) (idsOf [t141]) ∧ cOut (idsOf [t141]) H53.next H55.next ∧ (cOut (idsOf [t141]) H51.next H53.next ∧ (opW ((buildSliceC P 42 1).f [(0, t142)] H60) fun t143 H62 =>
opW (appendWith 1 16 t139 t143 H62) fun t144 H64 =>
opP ((binC P .eql 30 true).f t136 (.int .i64 0)) fun t146 =>
wIf t146 (
opP ((binC P .add 3 true).f (nth l 7) (.int .i64 1)) fun t161_3 =>
N [(nth l 0), (nth l 1), (nth l 2), t144, (nth l 4), (nth l 5), (nth l 6), t161_3] H64) (
opP ((binC P .eql 30 true).f t136 (.int .i64 62)) fun t149 =>
wIf t149 (
opW ((buildSliceC P 43 1).f [(0, t144)] H64) fun t152 H69 =>
opW (appendWith 1 24 (nth l 4) t152 H69) fun t153 H71 =>
opP ((binC P .add 3 true).f (nth l 7) (.int .i64 1)) fun t161_4 =>
N [(nth l 0), (nth l 1), (nth l 2), (nth l 3), t153, (nth l 5), (nth l 6), t161_4] H71) (
opP ((binC P .add 3 true).f (nth l 7) (.int .i64 1)) fun t161_5 =>
N [(nth l 0), (nth l 1), (nth l 2), (nth l 3), (nth l 4), (nth l 5), (nth l 6), t161_5] H64))))))) (
opP ((binC P .eql 3 true).f t67 (.int .i64 3)) fun t155 =>
wIf t155 (
wCall P n_part_Map_Device [(nth l 1)] H16 fun t157 H76 =>
opP (offPtr 1 t11) fun t158 =>
opW (loadOne t158 H76) fun t159 H79 =>
cSame (sameB H16 H76) (idsOf [t158]) ∧ (wCall P n_flash_Device_Budget [t157, t159] H79 fun t160 H81 =>
opP ((binC P .add 3 true).f (nth l 7) (.int .i64 1)) fun t161_6 =>
N [(nth l 0), (nth l 1), (nth l 2), (nth l 3), (nth l 4), (nth l 5), (nth l 6), t161_6] H81)) (
wCall P n_part_Map_Device [(nth l 1)] H16 fun t69 H84 =>
opP (offPtr 3 t11) fun t70 =>
opW (loadOne t70 H84) fun t71 H87 =>
cSame (sameB H16 H84) (idsOf [t70]) ∧ (wCall P n_flash_Device_Restart [t69, t71] H87 fun t72 H89 =>
wCall P n_journal_Open [(nth l 1), (.int .i64 0), (.int .i64 1)] H89 fun t75 H91 =>
opP (extA 0 t75) fun t76 =>
opP (extA 1 t75) fun t77 =>
wCall P n_law09_same [t77, (nth l 3)] H91 fun t80 H95 =>
opW (lenSl (nth l 4) H95) fun t82 H97 =>
wLoop P true 162 law09_JournalHolds_P1 504403158265725808 [(nth l 0), (nth l 1), (nth l 2), (nth l 3), (nth l 4), t76, t77, t80, (nth l 5), (nth l 6), (nth l 7), (nth l 4), t82, (.int .i64 0)] H97 (fun id l_1 H99 =>
cond (Nat.beq id 3) (
opP (unA .not (nth l_1 7)) fun t95 =>
wIf t95 (
Qr [(.bool false)] H99) (
opW ((buildSliceC P 42 0).f [] H99) fun t96 H102 =>
opW (lenSl (nth l_1 6) H102) fun t98 H104 =>
wLoop P true 162 law09_JournalHolds_P2 504403158265529200 [(nth l_1 0), (nth l_1 1), (nth l_1 2), t96, (nth l_1 4), (nth l_1 5), (nth l_1 8), (nth l_1 9), (nth l_1 10), (nth l_1 6), t98, (.int .i64 0)] H104 (fun id l_2 H106 =>
cond (Nat.beq id 5) (
opP ((binC P .add 3 true).f (nth l_2 8) (.int .i64 1)) fun t161_7 =>
N [(nth l_2 0), (nth l_2 1), (nth l_2 5), (nth l_2 3), (.slice none 0 0), (nth l_2 6), (nth l_2 7), t161_7] H106) (
cond (Nat.beq id 2) (
opP ((binC P .add 3 true).f (nth l_2 8) (.int .i64 1)) fun t161_8 =>
N [(nth l_2 0), (nth l_2 1), (nth l_2 2), (nth l_2 3), (nth l_2 4), (nth l_2 6), (nth l_2 7), t161_8] H106) (
cond (Nat.beq id 1) (
opP ((binC P .add 3 true).f (nth l_2 8) (.int .i64 1)) fun t161_9 =>
N [(nth l_2 0), (nth l_2 1), (nth l_2 2), (nth l_2 3), (nth l_2 4), (nth l_2 6), (nth l_2 7), t161_9] H106) (
Qx id [(nth l_2 0)] H106)))) (fun l_2 H106 =>
Qr [(nth l_2 0)] H106))) (
cond (Nat.beq id 2) (
opP ((binC P .add 3 true).f (nth l_1 10) (.int .i64 1)) fun t161_10 =>
N [(nth l_1 0), (nth l_1 1), (nth l_1 2), (nth l_1 3), (nth l_1 4), (nth l_1 8), (nth l_1 9), t161_10] H99) (
cond (Nat.beq id 1) (
opP ((binC P .add 3 true).f (nth l_1 10) (.int .i64 1)) fun t161_11 =>
N [(nth l_1 0), (nth l_1 1), (nth l_1 2), (nth l_1 3), (nth l_1 4), (nth l_1 8), (nth l_1 9), t161_11] H99) (
Qx id [(nth l_1 0)] H99)))) (fun l_1 H99 =>
Qr [(nth l_1 0)] H99))))))) (
Qx 0 [(nth l 0)] H)
theorem law09_JournalHolds_L0_eq (l : List Value) (H : Heap) (N : List Value → Heap → Prop) (Qx : Nat → List Value → Heap → Prop) (Qr : List Value → Heap → Prop) : vcC P true 162 law09_JournalHolds_P0 (live law09_JournalHolds_P0 0 16) 16 (envOf (bits 162 (live law09_JournalHolds_P0 0 16)) l) H (loopQ 162 law09_JournalHolds_P0 16 N Qx Qr) = law09_JournalHolds_L0 l H N Qx Qr := by kernel_rfl
theorem law09_JournalHolds_L0_ind (I : Nat → List Value → Heap → Prop) (Qx : Nat → List Value → Heap → Prop) (Qr : List Value → Heap → Prop) (hs : ∀ k l H, I k l H → law09_JournalHolds_L0 l H (fun l H => ∃ k', k' < k ∧ I k' l H) Qx Qr) (k : Nat) (l : List Value) (H : Heap) (h : I k l H) : wLoop P true 162 law09_JournalHolds_P0 16 l H Qx Qr :=
  loop_ind (by kernel_rfl) I (fun k l H h => (law09_JournalHolds_L0_eq l H _ Qx Qr).mpr (hs k l H h)) k l H h

/-- loop 1: goes on from the slots [4, 5, 6, 8, 9, 15, 16, 17, 56, 57, 58, 81, 82, 83]; leaves [4, 5, 6, 8, 9, 15, 16, 17, 56, 57, 58] -/
def law09_JournalHolds_L1 (l : List Value) (H : Heap) (N : List Value → Heap → Prop) (Qx : Nat → List Value → Heap → Prop) (Qr : List Value → Heap → Prop) : Prop :=
opP ((binC P .lss 3 false).f (nth l 13) (nth l 12)) fun t84 =>
wIf t84 (
opP (idxSl 1 (nth l 11) (nth l 13)) fun t85 =>
opW (loadOne t85 H) fun t86 H3 =>
wIf (nth l 7) (
opP (pickA (nth l 7) (.bool true) undef) fun t92 =>
opP ((binC P .add 3 true).f (nth l 13) (.int .i64 1)) fun t93 =>
N [(nth l 0), (nth l 1), (nth l 2), (nth l 3), (nth l 4), (nth l 5), (nth l 6), t92, (nth l 8), (nth l 9), (nth l 10), (nth l 11), (nth l 12), t93] H3) (
wCall P n_law09_same [(nth l 6), t86] H3 fun t91 H7 =>
opP (pickA (nth l 7) (.bool true) t91) fun t92_1 =>
opP ((binC P .add 3 true).f (nth l 13) (.int .i64 1)) fun t93_1 =>
N [(nth l 0), (nth l 1), (nth l 2), (nth l 3), (nth l 4), (nth l 5), (nth l 6), t92_1, (nth l 8), (nth l 9), (nth l 10), (nth l 11), (nth l 12), t93_1] H7)) (
Qx 3 [(nth l 0), (nth l 1), (nth l 2), (nth l 3), (nth l 4), (nth l 5), (nth l 6), (nth l 7), (nth l 8), (nth l 9), (nth l 10)] H)
theorem law09_JournalHolds_L1_eq (l : List Value) (H : Heap) (N : List Value → Heap → Prop) (Qx : Nat → List Value → Heap → Prop) (Qr : List Value → Heap → Prop) : vcC P true 162 law09_JournalHolds_P1 (live law09_JournalHolds_P1 0 504403158265725808) 504403158265725808 (envOf (bits 162 (live law09_JournalHolds_P1 0 504403158265725808)) l) H (loopQ 162 law09_JournalHolds_P1 504403158265725808 N Qx Qr) = law09_JournalHolds_L1 l H N Qx Qr := by kernel_rfl
theorem law09_JournalHolds_L1_ind (I : Nat → List Value → Heap → Prop) (Qx : Nat → List Value → Heap → Prop) (Qr : List Value → Heap → Prop) (hs : ∀ k l H, I k l H → law09_JournalHolds_L1 l H (fun l H => ∃ k', k' < k ∧ I k' l H) Qx Qr) (k : Nat) (l : List Value) (H : Heap) (h : I k l H) : wLoop P true 162 law09_JournalHolds_P1 504403158265725808 l H Qx Qr :=
  loop_ind (by kernel_rfl) I (fun k l H h => (law09_JournalHolds_L1_eq l H _ Qx Qr).mpr (hs k l H h)) k l H h

/-- loop 2: goes on from the slots [4, 5, 6, 8, 9, 15, 56, 57, 58, 97, 98, 99]; leaves [4, 5, 6, 8, 9, 15, 56, 57, 58] -/
def law09_JournalHolds_L2 (l : List Value) (H : Heap) (N : List Value → Heap → Prop) (Qx : Nat → List Value → Heap → Prop) (Qr : List Value → Heap → Prop) : Prop :=
opP ((binC P .lss 3 false).f (nth l 11) (nth l 10)) fun t100 =>
wIf t100 (
opP (idxSl 1 (nth l 9) (nth l 11)) fun t101 =>
opW (loadOne t101 H) fun t102 H3 =>
opW (bytesToStr t102 H3) fun t105 H5 =>
opW ((buildSliceC P 42 1).f [(0, t105)] H5) fun t106 H7 =>
opW (appendWith 1 16 (nth l 3) t106 H7) fun t107 H9 =>
opP ((binC P .add 3 true).f (nth l 11) (.int .i64 1)) fun t108 =>
N [(nth l 0), (nth l 1), (nth l 2), t107, (nth l 4), (nth l 5), (nth l 6), (nth l 7), (nth l 8), (nth l 9), (nth l 10), t108] H9) (
Qx 5 [(nth l 0), (nth l 1), (nth l 2), (nth l 3), (nth l 4), (nth l 5), (nth l 6), (nth l 7), (nth l 8)] H)
theorem law09_JournalHolds_L2_eq (l : List Value) (H : Heap) (N : List Value → Heap → Prop) (Qx : Nat → List Value → Heap → Prop) (Qr : List Value → Heap → Prop) : vcC P true 162 law09_JournalHolds_P2 (live law09_JournalHolds_P2 0 504403158265529200) 504403158265529200 (envOf (bits 162 (live law09_JournalHolds_P2 0 504403158265529200)) l) H (loopQ 162 law09_JournalHolds_P2 504403158265529200 N Qx Qr) = law09_JournalHolds_L2 l H N Qx Qr := by kernel_rfl
theorem law09_JournalHolds_L2_ind (I : Nat → List Value → Heap → Prop) (Qx : Nat → List Value → Heap → Prop) (Qr : List Value → Heap → Prop) (hs : ∀ k l H, I k l H → law09_JournalHolds_L2 l H (fun l H => ∃ k', k' < k ∧ I k' l H) Qx Qr) (k : Nat) (l : List Value) (H : Heap) (h : I k l H) : wLoop P true 162 law09_JournalHolds_P2 504403158265529200 l H Qx Qr :=
  loop_ind (by kernel_rfl) I (fun k l H h => (law09_JournalHolds_L2_eq l H _ Qx Qr).mpr (hs k l H h)) k l H h
def law09_JournalHolds (t0 t1 : Value) (H : Heap) (K : Value → Heap → Prop) : Prop :=
wNew (cellsL t0) H fun t2 H1 =>
wCall P n_law09_journalAlive [] H1 fun t22 H3 =>
opP (unA .not t22) fun t23 =>
wIf t23 (
K (.bool false) H3) (
wJoin (fun J =>
opP (idxPtr 2 1 t2 (.int .i64 0)) fun t24 =>
opW (loadOne t24 H3) fun t25 H8 =>
opP ((binC P .lss 3 true).f t25 (.int .i64 2)) fun t26 =>
wIf t26 (
opP (pickA t26 (.bool true) undef) fun t31 =>
opP (pickA t31 (.bool true) undef) fun t36 =>
opP (pickA t36 (.bool true) undef) fun t41 =>
opP (pickA t41 (.bool true) undef) fun t46 =>
wIf t46 (
K (.bool true) H8) (
J [t1, t2, (.bool false)] H8)) (
opP (idxPtr 2 1 t2 (.int .i64 1)) fun t28 =>
opW (loadOne t28 H8) fun t29 H16 =>
opP ((binC P .lss 3 true).f t29 (.int .i64 2)) fun t30 =>
opP (pickA t26 (.bool true) t30) fun t31_1 =>
wIf t31_1 (
opP (pickA t31_1 (.bool true) undef) fun t36_1 =>
opP (pickA t36_1 (.bool true) undef) fun t41_1 =>
opP (pickA t41_1 (.bool true) undef) fun t46_1 =>
wIf t46_1 (
K (.bool true) H16) (
J [t1, t2, (.bool false)] H16)) (
opP (idxPtr 2 1 t2 (.int .i64 0)) fun t33 =>
opW (loadOne t33 H16) fun t34 H24 =>
opP ((binC P .gtr 3 true).f t34 (.int .i64 25)) fun t35 =>
opP (pickA t31_1 (.bool true) t35) fun t36_2 =>
wIf t36_2 (
opP (pickA t36_2 (.bool true) undef) fun t41_2 =>
opP (pickA t41_2 (.bool true) undef) fun t46_2 =>
wIf t46_2 (
K (.bool true) H24) (
J [t1, t2, (.bool false)] H24)) (
opP (idxPtr 2 1 t2 (.int .i64 1)) fun t38 =>
opW (loadOne t38 H24) fun t39 H31 =>
opP ((binC P .gtr 3 true).f t39 (.int .i64 25)) fun t40 =>
opP (pickA t36_2 (.bool true) t40) fun t41_3 =>
wIf t41_3 (
opP (pickA t41_3 (.bool true) undef) fun t46_3 =>
wIf t46_3 (
K (.bool true) H31) (
J [t1, t2, (.bool false)] H31)) (
opW (lenSl t1 H31) fun t44 H36 =>
opP ((binC P .gtr 3 true).f t44 (.int .i64 60)) fun t45 =>
opP (pickA t41_3 (.bool true) t45) fun t46_4 =>
wIf t46_4 (
K (.bool true) H36) (
J [t1, t2, (.bool false)] H36)))))) (fun l H40 =>
opW (loadAgg 2 (nth l 1) H40) fun t47 H42 =>
wCall P n_law09_open [t47] H42 fun t48 H44 =>
wCall P n_journal_Open [t48, (.int .i64 0), (.int .i64 1)] H44 fun t51 H46 =>
opP (extA 0 t51) fun t52 =>
opP (extA 1 t51) fun t53 =>
opW ((buildSliceC P 42 0).f [] H46) fun t54 H50 =>
opW ((buildSliceC P 43 0).f [] H50) fun t55 H52 =>
opW (lenSl (nth l 0) H52) fun t57 H54 =>
wLoop P true 162 law09_JournalHolds_P0 16 [(nth l 2), t48, t52, t54, t55, (nth l 0), t57, (.int .i64 0)] H54 (fun id l_1 H56 =>
cond (Nat.beq id 0) (
K (.bool true) H56) (
False)) (fun l_1 H56 =>
K (nth l_1 0) H56)))
theorem law09_JournalHolds_eq (t0 t1 : Value) (H : Heap) (K : Value → Heap → Prop) : vcF P n_law09_JournalHolds [t0, t1] H K = law09_JournalHolds t0 t1 H K := by kernel_rfl
theorem law09_JournalHolds_ok {t0 t1 : Value} {H : Heap} {K : Value → Heap → Prop} (h : law09_JournalHolds t0 t1 H K) : wCall P n_law09_JournalHolds [t0, t1] H K := wCall_of_vcF rfl ((law09_JournalHolds_eq t0 t1 H K).mpr h)

/-! bootjack/journal.Open -/
def journal_Open (t0 t1 t2 : Value) (H : Heap) (K : Value → Heap → Prop) : Prop :=
opP ((buildC P 29).f [(0, t1), (1, t2)]) fun t14 =>
opP ((buildC P 54).f [(0, t0), (1, t14), (2, (.int .i64 1))]) fun t15 =>
wNew (cellsL t15) H fun t16 H3 =>
wCall P n_journal_stands [t0, t1] H3 fun t19 H5 =>
wCall P n_journal_stands [t0, t2] H5 fun t22 H7 =>
wNew (zc P 56) H7 fun t9 H9 =>
wNew (zc P 56) H9 fun t10 H11 =>
opW (storeTo 3 t9 t19 H11) fun u H13 =>
opW (storeTo 3 t10 t22 H13) fun u_1 H15 =>
wJoin (fun J =>
wJoin (fun J_1 =>
opP (offPtr 0 t9) fun t23 =>
opW (loadOne t23 H15) fun t24 H20 =>
opW (lenSl t24 H20) fun t25 H22 =>
opP ((binC P .gtr 3 true).f t25 (.int .i64 0)) fun t26 =>
wIf t26 (
opP (offPtr 0 t10) fun t28 =>
opW (loadOne t28 H22) fun t29 H26 =>
opW (lenSl t29 H26) fun t30 H28 =>
opP ((binC P .eql 3 true).f t30 (.int .i64 0)) fun t31 =>
wIf t31 (
opP (pickA t31 (.bool true) undef) fun t38 =>
opP (pickA t26 t38 (.bool false)) fun t39 =>
J_1 [t16, t9, t10, t39] H28) (
opP (offPtr 1 t9) fun t33 =>
opW (loadOne t33 H28) fun t34 H34 =>
opP (offPtr 1 t10) fun t35 =>
opW (loadOne t35 H34) fun t36 H37 =>
opP ((binC P .gtr 36 false).f t34 t36) fun t37 =>
opP (pickA t31 (.bool true) t37) fun t38_1 =>
opP (pickA t26 t38_1 (.bool false)) fun t39_1 =>
J_1 [t16, t9, t10, t39_1] H37)) (
opP (pickA t26 undef (.bool false)) fun t39_2 =>
J_1 [t16, t9, t10, t39_2] H22)) (fun l H43 =>
wIf (nth l 3) (
opW (loadAgg 3 (nth l 1) H43) fun t41 H45 =>
opP (nilCheckA (nth l 0)) fun t42 =>
opP (offPtr 3 t42) fun t43 =>
opW (storeTo 1 t43 (.int .i64 0) H45) fun u_2 H49 =>
cApart (idsOf [(nth l 1)]) (idsOf [t43, (.int .i64 0)]) ∧ (opW (storeTo 3 (nth l 2) t41 H49) fun u_3 H51 =>
J [(nth l 0), (nth l 2)] H51)) (
J [(nth l 0), (nth l 2)] H43))) (fun l_1 H53 =>
opP (offPtr 2 (nth l_1 1)) fun t45 =>
opW (loadOne t45 H53) fun t46 H56 =>
opP (nilCheckA (nth l_1 0)) fun t47 =>
opP (offPtr 4 t47) fun t48 =>
opW (storeTo 1 t48 t46 H56) fun u_4 H60 =>
opP (offPtr 0 (nth l_1 1)) fun t50 =>
opW (loadOne t50 H60) fun t51 H63 =>
K (.tuple [(nth l_1 0), t51].toArray) H63)
theorem journal_Open_eq (t0 t1 t2 : Value) (H : Heap) (K : Value → Heap → Prop) : vcF P n_journal_Open [t0, t1, t2] H K = journal_Open t0 t1 t2 H K := by kernel_rfl
theorem journal_Open_ok {t0 t1 t2 : Value} {H : Heap} {K : Value → Heap → Prop} (h : journal_Open t0 t1 t2 H K) : wCall P n_journal_Open [t0, t1, t2] H K := wCall_of_vcF rfl ((journal_Open_eq t0 t1 t2 H K).mpr h)

/-! bootjack/bootjacklaw09.open -/
def law09_open (t0 : Value) (H : Heap) (K : Value → Heap → Prop) : Prop :=
wNew (cellsL t0) H fun t1 H1 =>
wCall P n_flash_New [(.int .i64 60), (.int .i64 10000)] H1 fun t6 H3 =>
opP (idxPtr 2 1 t1 (.int .i64 0)) fun t7 =>
opW (loadOne t7 H3) fun t8 H6 =>
cSame (sameB H1 H3) (idsOf [t7]) ∧ (opP (idxPtr 2 1 t1 (.int .i64 1)) fun t9 =>
opW (loadOne t9 H6) fun t10 H9 =>
cSame (sameB H1 H3) (idsOf [t9]) ∧ (opW ((buildSliceC P 83 3).f [(0, t8), (1, t10), (2, (.int .i64 1))] H9) fun t11 H11 =>
wCall P n_part_New [t6, t11] H11 fun t12 H13 =>
opP (extA 0 t12) fun t13 =>
opP (extA 1 t12) fun t14 =>
K t13 H13))
theorem law09_open_eq (t0 : Value) (H : Heap) (K : Value → Heap → Prop) : vcF P n_law09_open [t0] H K = law09_open t0 H K := by kernel_rfl
theorem law09_open_ok {t0 : Value} {H : Heap} {K : Value → Heap → Prop} (h : law09_open t0 H K) : wCall P n_law09_open [t0] H K := wCall_of_vcF rfl ((law09_open_eq t0 H K).mpr h)

/-! (*bootjack/journal.Journal).Append -/
def journal_Journal_Append (t0 t1 : Value) (H : Heap) (K : Value → Heap → Prop) : Prop :=
opP (nilCheckA t0) fun t8 =>
opP (offPtr 6 t8) fun t9 =>
opW (loadOne t9 H) fun t10 H3 =>
opP (unA .not t10) fun t11 =>
wIf t11 (
K (.int .i64 91) H3) (
opP (nilCheckA t0) fun t13 =>
opP (offPtr 4 t13) fun t14 =>
opW (loadOne t14 H3) fun t15 H8 =>
opP ((binC P .add 36 true).f t15 (.int .u64 1)) fun t16 =>
wCall P n_frame_Put [(.int .u8 2), t16, t1] H8 fun t18 H11 =>
wJoin (fun J =>
opW (lenSl t18 H11) fun t20 H14 =>
opP ((binC P .eql 3 true).f t20 (.int .i64 0)) fun t21 =>
wIf t21 (
opP (pickA t21 (.bool true) undef) fun t28 =>
opP (pickA t28 (.bool true) undef) fun t35 =>
wIf t35 (
K (.int .i64 92) H14) (
J [t0, t18] H14)) (
opW (lenSl t18 H14) fun t24 H19 =>
wCall P n_journal_Journal_Left [t0] H19 fun t26 H21 =>
opP ((binC P .gtr 3 false).f t24 t26) fun t27 =>
opP (pickA t21 (.bool true) t27) fun t28_1 =>
wIf t28_1 (
opP (pickA t28_1 (.bool true) undef) fun t35_1 =>
wIf t35_1 (
K (.int .i64 92) H21) (
J [t0, t18] H21)) (
opP (nilCheckA t0) fun t31 =>
opP (offPtr 4 t31) fun t32 =>
opW (loadOne t32 H21) fun t33 H28 =>
opP ((binC P .geq 36 true).f t33 (.int .u64 4611686018427387904)) fun t34 =>
opP (pickA t28_1 (.bool true) t34) fun t35_2 =>
wIf t35_2 (
K (.int .i64 92) H28) (
J [t0, t18] H28)))) (fun l H32 =>
opP (nilCheckA (nth l 0)) fun t39 =>
opP (offPtr 3 t39) fun t40 =>
opW (loadOne t40 H32) fun t41 H36 =>
opP (nilCheckA (nth l 0)) fun t42 =>
opP (offPtr 1 t42) fun t43 =>
opP (idxPtr 2 1 t43 t41) fun t44 =>
opW (loadOne t44 H36) fun t45 H41 =>
opP (nilCheckA (nth l 0)) fun t47 =>
opP (offPtr 5 t47) fun t48 =>
opW (loadOne t48 H41) fun t49 H45 =>
wCall P n_journal_Journal_write [(nth l 0), t45, t49, (nth l 1)] H45 fun t51 H47 =>
opP ((binC P .neq 30 true).f t51 (.int .i64 0)) fun t53 =>
wIf t53 (
opP (nilCheckA (nth l 0)) fun t55 =>
opP (offPtr 6 t55) fun t56 =>
opW (storeTo 1 t56 (.bool false) H47) fun u H52 =>
K t51 H52) (
opP (nilCheckA (nth l 0)) fun t61 =>
opP (offPtr 4 t61) fun t62 =>
opW (loadOne t62 H47) fun t63 H56 =>
opP ((binC P .add 36 true).f t63 (.int .u64 1)) fun t64 =>
opP (nilCheckA (nth l 0)) fun t66 =>
opP (offPtr 5 t66) fun t67 =>
opW (loadOne t67 H56) fun t68 H61 =>
opW (lenSl (nth l 1) H61) fun t70 H63 =>
opP ((binC P .add 3 false).f t68 t70) fun t71 =>
opP (nilCheckA (nth l 0)) fun t72 =>
opP (offPtr 4 t72) fun t73 =>
opW (storeTo 1 t73 t64 H63) fun u_1 H68 =>
opP (nilCheckA (nth l 0)) fun t74 =>
opP (offPtr 5 t74) fun t75 =>
opW (storeTo 1 t75 t71 H68) fun u_2 H72 =>
K (.int .i64 0) H72)))
theorem journal_Journal_Append_eq (t0 t1 : Value) (H : Heap) (K : Value → Heap → Prop) : vcF P n_journal_Journal_Append [t0, t1] H K = journal_Journal_Append t0 t1 H K := by kernel_rfl
theorem journal_Journal_Append_ok {t0 t1 : Value} {H : Heap} {K : Value → Heap → Prop} (h : journal_Journal_Append t0 t1 H K) : wCall P n_journal_Journal_Append [t0, t1] H K := wCall_of_vcF rfl ((journal_Journal_Append_eq t0 t1 H K).mpr h)

/-! (*bootjack/journal.Journal).Begin -/
def journal_Journal_Begin (t0 t1 : Value) (H : Heap) (K : Value → Heap → Prop) : Prop :=
wJoin (fun J =>
opW (lenSl t1 H) fun t13 H2 =>
wCall P n_journal_Journal_Fits [t0, t13] H2 fun t14 H4 =>
opP (unA .not t14) fun t15 =>
wIf t15 (
opP (pickA t15 (.bool true) undef) fun t22 =>
wIf t22 (
K (.int .i64 92) H4) (
J [t0, t1] H4)) (
opP (nilCheckA t0) fun t18 =>
opP (offPtr 4 t18) fun t19 =>
opW (loadOne t19 H4) fun t20 H10 =>
opP ((binC P .geq 36 true).f t20 (.int .u64 4611686018427387904)) fun t21 =>
opP (pickA t15 (.bool true) t21) fun t22_1 =>
wIf t22_1 (
K (.int .i64 92) H10) (
J [t0, t1] H10))) (fun l H14 =>
opP (nilCheckA (nth l 0)) fun t24 =>
opP (offPtr 6 t24) fun t25 =>
opW (storeTo 1 t25 (.bool false) H14) fun u H18 =>
opP (nilCheckA (nth l 0)) fun t27 =>
opP (offPtr 3 t27) fun t28 =>
opW (loadOne t28 H18) fun t29 H22 =>
opP ((binC P .sub 3 true).f (.int .i64 1) t29) fun t30 =>
opP (nilCheckA (nth l 0)) fun t33 =>
opP (offPtr 1 t33) fun t34 =>
opP (idxPtr 2 1 t34 t30) fun t35 =>
opW (loadOne t35 H22) fun t36 H28 =>
opP (nilCheckA (nth l 0)) fun t38 =>
opP (offPtr 0 t38) fun t39 =>
opW (loadOne t39 H28) fun t40 H32 =>
wCall P n_part_Map_Wipe [t40, t36] H32 fun t42 H34 =>
opP ((binC P .neq 30 true).f t42 (.int .i64 0)) fun t44 =>
wIf t44 (
K t42 H34) (
opP (nilCheckA (nth l 0)) fun t47 =>
opP (offPtr 0 t47) fun t48 =>
opW (loadOne t48 H34) fun t49 H39 =>
wCall P n_part_Map_Sync [t49] H39 fun t50 H41 =>
opP ((binC P .neq 30 true).f t50 (.int .i64 0)) fun t52 =>
wIf t52 (
K t50 H41) (
opP (nilCheckA (nth l 0)) fun t55 =>
opP (offPtr 4 t55) fun t56 =>
opW (loadOne t56 H41) fun t57 H46 =>
opP ((binC P .add 36 true).f t57 (.int .u64 1)) fun t58 =>
wCall P n_frame_Put [(.int .u8 1), t58, (nth l 1)] H46 fun t60 H49 =>
wCall P n_journal_Journal_write [(nth l 0), t36, (.int .i64 0), t60] H49 fun t64 H51 =>
opP ((binC P .neq 30 true).f t64 (.int .i64 0)) fun t66 =>
wIf t66 (
K t64 H51) (
opP (nilCheckA (nth l 0)) fun t74 =>
opP (offPtr 4 t74) fun t75 =>
opW (loadOne t75 H51) fun t76 H56 =>
opP ((binC P .add 36 true).f t76 (.int .u64 1)) fun t77 =>
opW (lenSl t60 H56) fun t79 H59 =>
opP (nilCheckA (nth l 0)) fun t80 =>
opP (offPtr 3 t80) fun t81 =>
opW (storeTo 1 t81 t30 H59) fun u_1 H63 =>
opP (nilCheckA (nth l 0)) fun t82 =>
opP (offPtr 4 t82) fun t83 =>
opW (storeTo 1 t83 t77 H63) fun u_2 H67 =>
opP (nilCheckA (nth l 0)) fun t84 =>
opP (offPtr 5 t84) fun t85 =>
opW (storeTo 1 t85 t79 H67) fun u_3 H71 =>
opP (nilCheckA (nth l 0)) fun t86 =>
opP (offPtr 6 t86) fun t87 =>
opW (storeTo 1 t87 (.bool true) H71) fun u_4 H75 =>
K (.int .i64 0) H75))))
theorem journal_Journal_Begin_eq (t0 t1 : Value) (H : Heap) (K : Value → Heap → Prop) : vcF P n_journal_Journal_Begin [t0, t1] H K = journal_Journal_Begin t0 t1 H K := by kernel_rfl
theorem journal_Journal_Begin_ok {t0 t1 : Value} {H : Heap} {K : Value → Heap → Prop} (h : journal_Journal_Begin t0 t1 H K) : wCall P n_journal_Journal_Begin [t0, t1] H K := wCall_of_vcF rfl ((journal_Journal_Begin_eq t0 t1 H K).mpr h)

/-! (*bootjack/journal.Journal).Fits -/
def journal_Journal_Fits (t0 t1 : Value) (H : Heap) (K : Value → Heap → Prop) : Prop :=
wCall P n_frame_Size [t1] H fun t7 H1 =>
opP ((binC P .gtr 3 true).f t7 (.int .i64 0)) fun t9 =>
wIf t9 (
opP (nilCheckA t0) fun t13 =>
opP (offPtr 0 t13) fun t14 =>
opW (loadOne t14 H1) fun t15 H6 =>
opP (nilCheckA t0) fun t17 =>
opP (offPtr 1 t17) fun t18 =>
opP (idxPtr 2 1 t18 (.int .i64 0)) fun t19 =>
opW (loadOne t19 H6) fun t20 H11 =>
wCall P n_part_Map_Size [t15, t20] H11 fun t21 H13 =>
opP (nilCheckA t0) fun t23 =>
opP (offPtr 0 t23) fun t24 =>
opW (loadOne t24 H13) fun t25 H17 =>
cSame (sameB H11 H13) (idsOf [t24]) ∧ (opP (nilCheckA t0) fun t27 =>
opP (offPtr 1 t27) fun t28 =>
opP (idxPtr 2 1 t28 (.int .i64 1)) fun t29 =>
opW (loadOne t29 H17) fun t30 H22 =>
cSame (sameB H11 H13) (idsOf [t29]) ∧ (wCall P n_part_Map_Size [t25, t30] H22 fun t31 H24 =>
opW (withH H24 (minA [t21, t31])) fun t32 H26 =>
opP ((binC P .leq 3 false).f t7 t32) fun t33 =>
opP (pickA t9 t33 (.bool false)) fun t34 =>
K t34 H26))) (
opP (pickA t9 undef (.bool false)) fun t34_1 =>
K t34_1 H1)
theorem journal_Journal_Fits_eq (t0 t1 : Value) (H : Heap) (K : Value → Heap → Prop) : vcF P n_journal_Journal_Fits [t0, t1] H K = journal_Journal_Fits t0 t1 H K := by kernel_rfl
theorem journal_Journal_Fits_ok {t0 t1 : Value} {H : Heap} {K : Value → Heap → Prop} (h : journal_Journal_Fits t0 t1 H K) : wCall P n_journal_Journal_Fits [t0, t1] H K := wCall_of_vcF rfl ((journal_Journal_Fits_eq t0 t1 H K).mpr h)

/-! (*bootjack/part.Map).Ops -/
def part_Map_Ops (t0 : Value) (H : Heap) (K : Value → Heap → Prop) : Prop :=
opP (nilCheckA t0) fun t5 =>
opP (offPtr 3 t5) fun t6 =>
opW (loadOne t6 H) fun t7 H3 =>
opP (nilCheckA t0) fun t9 =>
opP (offPtr 3 t9) fun t10 =>
opW (storeTo 1 t10 (.slice none 0 0) H3) fun u H7 =>
K t7 H7
theorem part_Map_Ops_eq (t0 : Value) (H : Heap) (K : Value → Heap → Prop) : vcF P n_part_Map_Ops [t0] H K = part_Map_Ops t0 H K := by kernel_rfl
theorem part_Map_Ops_ok {t0 : Value} {H : Heap} {K : Value → Heap → Prop} (h : part_Map_Ops t0 H K) : wCall P n_part_Map_Ops [t0] H K := wCall_of_vcF rfl ((part_Map_Ops_eq t0 H K).mpr h)

/-! (*bootjack/journal.Journal).Last -/
def journal_Journal_Last (t0 : Value) (H : Heap) (K : Value → Heap → Prop) : Prop :=
opP (nilCheckA t0) fun t4 =>
opP (offPtr 4 t4) fun t5 =>
opW (loadOne t5 H) fun t6 H3 =>
K t6 H3
theorem journal_Journal_Last_eq (t0 : Value) (H : Heap) (K : Value → Heap → Prop) : vcF P n_journal_Journal_Last [t0] H K = journal_Journal_Last t0 H K := by kernel_rfl
theorem journal_Journal_Last_ok {t0 : Value} {H : Heap} {K : Value → Heap → Prop} (h : journal_Journal_Last t0 H K) : wCall P n_journal_Journal_Last [t0] H K := wCall_of_vcF rfl ((journal_Journal_Last_eq t0 H K).mpr h)

/-! (*bootjack/part.Map).Device -/
def part_Map_Device (t0 : Value) (H : Heap) (K : Value → Heap → Prop) : Prop :=
opP (nilCheckA t0) fun t4 =>
opP (offPtr 0 t4) fun t5 =>
opW (loadOne t5 H) fun t6 H3 =>
K t6 H3
theorem part_Map_Device_eq (t0 : Value) (H : Heap) (K : Value → Heap → Prop) : vcF P n_part_Map_Device [t0] H K = part_Map_Device t0 H K := by kernel_rfl
theorem part_Map_Device_ok {t0 : Value} {H : Heap} {K : Value → Heap → Prop} (h : part_Map_Device t0 H K) : wCall P n_part_Map_Device [t0] H K := wCall_of_vcF rfl ((part_Map_Device_eq t0 H K).mpr h)

/-! (*bootjack/flash.Device).Budget -/
def flash_Device_Budget (t0 t1 : Value) (H : Heap) (K : Value → Heap → Prop) : Prop :=
opW (withH H (maxA [t1, (.int .i64 (-1))])) fun t6 H1 =>
opP (nilCheckA t0) fun t7 =>
opP (offPtr 3 t7) fun t8 =>
opW (storeTo 1 t8 t6 H1) fun u H5 =>
K (.tuple [].toArray) H5
theorem flash_Device_Budget_eq (t0 t1 : Value) (H : Heap) (K : Value → Heap → Prop) : vcF P n_flash_Device_Budget [t0, t1] H K = flash_Device_Budget t0 t1 H K := by kernel_rfl
theorem flash_Device_Budget_ok {t0 t1 : Value} {H : Heap} {K : Value → Heap → Prop} (h : flash_Device_Budget t0 t1 H K) : wCall P n_flash_Device_Budget [t0, t1] H K := wCall_of_vcF rfl ((flash_Device_Budget_eq t0 t1 H K).mpr h)

/-! (*bootjack/flash.Device).Restart -/
noncomputable abbrev flash_Device_Restart_P0 : Code := loopAt P n_flash_Device_Restart 0
noncomputable abbrev flash_Device_Restart_P1 : Code := loopAt P n_flash_Device_Restart 1
/-- loop 0: goes on from the slots [0, 1, 12, 13, 14]; leaves [0] -/
def flash_Device_Restart_L0 (l : List Value) (H : Heap) (N : List Value → Heap → Prop) (Qx : Nat → List Value → Heap → Prop) (Qr : List Value → Heap → Prop) : Prop :=
opP ((binC P .lss 3 false).f (nth l 4) (nth l 3)) fun t15 =>
wIf t15 (
opP (idxSl 65 (nth l 2) (nth l 4)) fun t17 =>
opW (loadAgg 65 t17 H) fun t18 H3 =>
wNew (zc P 77) H3 fun t5 H5 =>
opW (storeTo 65 t5 t18 H5) fun u H7 =>
opW (lenSl (nth l 1) H7) fun t21 H9 =>
opP ((binC P .lss 3 false).f (nth l 4) t21) fun t22 =>
wIf t22 (
opP (idxSl 1 (nth l 1) (nth l 4)) fun t25 =>
opW (loadOne t25 H9) fun t26 H13 =>
opW (cvInt .i64 t26 H13) fun t27 H15 =>
opW (withH H15 (minA [t27, (.int .i64 64)])) fun t28 H17 =>
opP (nilCheckA (nth l 0)) fun t30 =>
opP (offPtr 0 t30) fun t31 =>
opW (loadOne t31 H17) fun t32 H21 =>
opP (offPtr 0 t5) fun t33 =>
opW (loadOne t33 H21) fun t34 H24 =>
opP (idxSl 129 t32 t34) fun t35 =>
opP (offPtr 0 t35) fun t36 =>
opP (sliceArr 64 1 t36 none (some t28) none H24) fun t38 =>
opP (offPtr 1 t5) fun t39 =>
opP (sliceArr 64 1 t39 none (some t28) none H24) fun t41 =>
opW (copyTo 1 t38 t41 H24) fun t42 H31 =>
opP ((binC P .add 3 true).f (nth l 4) (.int .i64 1)) fun t43 =>
N [(nth l 0), (nth l 1), (nth l 2), (nth l 3), t43] H31) (
opP ((binC P .add 3 true).f (nth l 4) (.int .i64 1)) fun t43_1 =>
N [(nth l 0), (nth l 1), (nth l 2), (nth l 3), t43_1] H9)) (
Qx 0 [(nth l 0)] H)
theorem flash_Device_Restart_L0_eq (l : List Value) (H : Heap) (N : List Value → Heap → Prop) (Qx : Nat → List Value → Heap → Prop) (Qr : List Value → Heap → Prop) : vcC P true 80 flash_Device_Restart_P0 (live flash_Device_Restart_P0 0 1) 1 (envOf (bits 80 (live flash_Device_Restart_P0 0 1)) l) H (loopQ 80 flash_Device_Restart_P0 1 N Qx Qr) = flash_Device_Restart_L0 l H N Qx Qr := by kernel_rfl
theorem flash_Device_Restart_L0_ind (I : Nat → List Value → Heap → Prop) (Qx : Nat → List Value → Heap → Prop) (Qr : List Value → Heap → Prop) (hs : ∀ k l H, I k l H → flash_Device_Restart_L0 l H (fun l H => ∃ k', k' < k ∧ I k' l H) Qx Qr) (k : Nat) (l : List Value) (H : Heap) (h : I k l H) : wLoop P true 80 flash_Device_Restart_P0 1 l H Qx Qr :=
  loop_ind (by kernel_rfl) I (fun k l H h => (flash_Device_Restart_L0_eq l H _ Qx Qr).mpr (hs k l H h)) k l H h

/-- loop 1: goes on from the slots [0, 47, 48, 49]; leaves [0] -/
def flash_Device_Restart_L1 (l : List Value) (H : Heap) (N : List Value → Heap → Prop) (Qx : Nat → List Value → Heap → Prop) (Qr : List Value → Heap → Prop) : Prop :=
opP ((binC P .lss 3 false).f (nth l 3) (nth l 2)) fun t50 =>
wIf t50 (
opP (idxSl 65 (nth l 1) (nth l 3)) fun t51 =>
opW (loadAgg 65 t51 H) fun t52 H3 =>
wNew (zc P 77) H3 fun t8 H5 =>
opW (storeTo 65 t8 t52 H5) fun u H7 =>
opP (nilCheckA (nth l 0)) fun t54 =>
opP (offPtr 0 t54) fun t55 =>
opW (loadOne t55 H7) fun t56 H11 =>
opP (offPtr 0 t8) fun t57 =>
opW (loadOne t57 H11) fun t58 H14 =>
opP (nilCheckA (nth l 0)) fun t60 =>
opP (offPtr 0 t60) fun t61 =>
opW (loadOne t61 H14) fun t62 H18 =>
opP (offPtr 0 t8) fun t63 =>
opW (loadOne t63 H18) fun t64 H21 =>
opP (idxSl 129 t62 t64) fun t65 =>
opP (offPtr 0 t65) fun t66 =>
opW (loadAgg 64 t66 H21) fun t67 H25 =>
opP (idxSl 129 t56 t58) fun t68 =>
opP (offPtr 64 t68) fun t69 =>
opW (storeTo 64 t69 t67 H25) fun u_1 H29 =>
opP ((binC P .add 3 true).f (nth l 3) (.int .i64 1)) fun t70 =>
N [(nth l 0), (nth l 1), (nth l 2), t70] H29) (
Qx 2 [(nth l 0)] H)
theorem flash_Device_Restart_L1_eq (l : List Value) (H : Heap) (N : List Value → Heap → Prop) (Qx : Nat → List Value → Heap → Prop) (Qr : List Value → Heap → Prop) : vcC P true 80 flash_Device_Restart_P1 (live flash_Device_Restart_P1 0 1) 1 (envOf (bits 80 (live flash_Device_Restart_P1 0 1)) l) H (loopQ 80 flash_Device_Restart_P1 1 N Qx Qr) = flash_Device_Restart_L1 l H N Qx Qr := by kernel_rfl
theorem flash_Device_Restart_L1_ind (I : Nat → List Value → Heap → Prop) (Qx : Nat → List Value → Heap → Prop) (Qr : List Value → Heap → Prop) (hs : ∀ k l H, I k l H → flash_Device_Restart_L1 l H (fun l H => ∃ k', k' < k ∧ I k' l H) Qx Qr) (k : Nat) (l : List Value) (H : Heap) (h : I k l H) : wLoop P true 80 flash_Device_Restart_P1 1 l H Qx Qr :=
  loop_ind (by kernel_rfl) I (fun k l H h => (flash_Device_Restart_L1_eq l H _ Qx Qr).mpr (hs k l H h)) k l H h
def flash_Device_Restart (t0 t1 : Value) (H : Heap) (K : Value → Heap → Prop) : Prop :=
opP (nilCheckA t0) fun t10 =>
opP (offPtr 1 t10) fun t11 =>
opW (loadOne t11 H) fun t12 H3 =>
opW (lenSl t12 H3) fun t13 H5 =>
wLoop P true 80 flash_Device_Restart_P0 1 [t0, t1, t12, t13, (.int .i64 0)] H5 (fun id l H7 =>
cond (Nat.beq id 0) (
opP (nilCheckA (nth l 0)) fun t45 =>
opP (offPtr 1 t45) fun t46 =>
opW (loadOne t46 H7) fun t47 H11 =>
opW (lenSl t47 H11) fun t48 H13 =>
wLoop P true 80 flash_Device_Restart_P1 1 [(nth l 0), t47, t48, (.int .i64 0)] H13 (fun id l_1 H15 =>
cond (Nat.beq id 2) (
opP (nilCheckA (nth l_1 0)) fun t74 =>
opP (offPtr 1 t74) fun t75 =>
opW (storeTo 1 t75 (.slice none 0 0) H15) fun u H19 =>
opP (nilCheckA (nth l_1 0)) fun t76 =>
opP (offPtr 3 t76) fun t77 =>
opW (storeTo 1 t77 (.int .i64 (-1)) H19) fun u_1 H23 =>
opP (nilCheckA (nth l_1 0)) fun t78 =>
opP (offPtr 4 t78) fun t79 =>
opW (storeTo 1 t79 (.bool false) H23) fun u_2 H27 =>
K (.tuple [].toArray) H27) (
False)) (fun l_1 H15 =>
K (.tuple [].toArray) H15)) (
False)) (fun l H7 =>
K (.tuple [].toArray) H7)
theorem flash_Device_Restart_eq (t0 t1 : Value) (H : Heap) (K : Value → Heap → Prop) : vcF P n_flash_Device_Restart [t0, t1] H K = flash_Device_Restart t0 t1 H K := by kernel_rfl
theorem flash_Device_Restart_ok {t0 t1 : Value} {H : Heap} {K : Value → Heap → Prop} (h : flash_Device_Restart t0 t1 H K) : wCall P n_flash_Device_Restart [t0, t1] H K := wCall_of_vcF rfl ((flash_Device_Restart_eq t0 t1 H K).mpr h)

/-! bootjack/bootjacklaw09.same -/
noncomputable abbrev law09_same_P0 : Code := loopAt P n_law09_same 0
/-- loop 0: goes on from the slots [0, 1, 4, 12, 13]; leaves [4] -/
def law09_same_L0 (l : List Value) (H : Heap) (N : List Value → Heap → Prop) (Qx : Nat → List Value → Heap → Prop) (Qr : List Value → Heap → Prop) : Prop :=
opP ((binC P .lss 3 false).f (nth l 4) (nth l 3)) fun t14 =>
wIf t14 (
opP (idxSl 1 (nth l 0) (nth l 4)) fun t18 =>
opW (loadOne t18 H) fun t19 H3 =>
opW (bytesToStr t19 H3) fun t20 H5 =>
opP (idxSl 1 (nth l 1) (nth l 4)) fun t23 =>
opW (loadOne t23 H5) fun t24 H8 =>
opP ((binC P .neq 9 false).f t20 t24) fun t25 =>
wIf t25 (
Qr [(.bool false)] H8) (
opP ((binC P .add 3 true).f (nth l 4) (.int .i64 1)) fun t26 =>
N [(nth l 0), (nth l 1), (nth l 2), (nth l 3), t26] H8)) (
Qx 0 [(nth l 2)] H)
theorem law09_same_L0_eq (l : List Value) (H : Heap) (N : List Value → Heap → Prop) (Qx : Nat → List Value → Heap → Prop) (Qr : List Value → Heap → Prop) : vcC P true 27 law09_same_P0 (live law09_same_P0 0 16) 16 (envOf (bits 27 (live law09_same_P0 0 16)) l) H (loopQ 27 law09_same_P0 16 N Qx Qr) = law09_same_L0 l H N Qx Qr := by kernel_rfl
theorem law09_same_L0_ind (I : Nat → List Value → Heap → Prop) (Qx : Nat → List Value → Heap → Prop) (Qr : List Value → Heap → Prop) (hs : ∀ k l H, I k l H → law09_same_L0 l H (fun l H => ∃ k', k' < k ∧ I k' l H) Qx Qr) (k : Nat) (l : List Value) (H : Heap) (h : I k l H) : wLoop P true 27 law09_same_P0 16 l H Qx Qr :=
  loop_ind (by kernel_rfl) I (fun k l H h => (law09_same_L0_eq l H _ Qx Qr).mpr (hs k l H h)) k l H h
def law09_same (t0 t1 : Value) (H : Heap) (K : Value → Heap → Prop) : Prop :=
opW (lenSl t0 H) fun t7 H1 =>
opW (lenSl t1 H1) fun t9 H3 =>
opP ((binC P .neq 3 false).f t7 t9) fun t10 =>
wIf t10 (
K (.bool false) H3) (
opW (lenSl t0 H3) fun t12 H6 =>
wLoop P true 27 law09_same_P0 16 [t0, t1, (.bool false), t12, (.int .i64 0)] H6 (fun id l H8 =>
cond (Nat.beq id 0) (
K (.bool true) H8) (
False)) (fun l H8 =>
K (nth l 0) H8))
theorem law09_same_eq (t0 t1 : Value) (H : Heap) (K : Value → Heap → Prop) : vcF P n_law09_same [t0, t1] H K = law09_same t0 t1 H K := by kernel_rfl
theorem law09_same_ok {t0 t1 : Value} {H : Heap} {K : Value → Heap → Prop} (h : law09_same t0 t1 H K) : wCall P n_law09_same [t0, t1] H K := wCall_of_vcF rfl ((law09_same_eq t0 t1 H K).mpr h)

/-! (*bootjack/journal.Journal).Left -/
def journal_Journal_Left (t0 : Value) (H : Heap) (K : Value → Heap → Prop) : Prop :=
opP (nilCheckA t0) fun t4 =>
opP (offPtr 6 t4) fun t5 =>
opW (loadOne t5 H) fun t6 H3 =>
opP (unA .not t6) fun t7 =>
wIf t7 (
K (.int .i64 0) H3) (
opP (nilCheckA t0) fun t9 =>
opP (offPtr 0 t9) fun t10 =>
opW (loadOne t10 H3) fun t11 H8 =>
opP (nilCheckA t0) fun t14 =>
opP (offPtr 3 t14) fun t15 =>
opW (loadOne t15 H8) fun t16 H12 =>
opP (nilCheckA t0) fun t17 =>
opP (offPtr 1 t17) fun t18 =>
opP (idxPtr 2 1 t18 t16) fun t19 =>
opW (loadOne t19 H12) fun t20 H17 =>
wCall P n_part_Map_Size [t11, t20] H17 fun t21 H19 =>
opP (nilCheckA t0) fun t23 =>
opP (offPtr 5 t23) fun t24 =>
opW (loadOne t24 H19) fun t25 H23 =>
cSame (sameB H17 H19) (idsOf [t24]) ∧ (opP ((binC P .sub 3 false).f t21 t25) fun t26 =>
K t26 H23))
theorem journal_Journal_Left_eq (t0 : Value) (H : Heap) (K : Value → Heap → Prop) : vcF P n_journal_Journal_Left [t0] H K = journal_Journal_Left t0 H K := by kernel_rfl
theorem journal_Journal_Left_ok {t0 : Value} {H : Heap} {K : Value → Heap → Prop} (h : journal_Journal_Left t0 H K) : wCall P n_journal_Journal_Left [t0] H K := wCall_of_vcF rfl ((journal_Journal_Left_eq t0 H K).mpr h)

/-! bootjack/journal.stands -/
noncomputable abbrev journal_stands_P0 : Code := loopAt P n_journal_stands 0
/-- loop 0: goes on from the slots [4, 5, 6, 7]; leaves [4] -/
def journal_stands_L0 (l : List Value) (H : Heap) (N : List Value → Heap → Prop) (Qx : Nat → List Value → Heap → Prop) (Qr : List Value → Heap → Prop) : Prop :=
wCall P n_frame_Get [(nth l 2)] H fun t17 H1 =>
opP (extA 0 t17) fun t18 =>
opP (extA 1 t17) fun t19 =>
opP (extA 2 t17) fun t20 =>
opP (extA 3 t17) fun t21 =>
wJoin (fun J =>
opP ((binC P .eql 3 true).f t21 (.int .i64 0)) fun t23 =>
wIf t23 (
opP (pickA t23 (.bool true) undef) fun t28 =>
opP (pickA t28 (.bool true) undef) fun t43 =>
J [(nth l 0), (nth l 1), (nth l 2), (nth l 3), t19, t20, t21, t43] H1) (
opP ((binC P .neq 5 false).f t18 (nth l 3)) fun t27 =>
opP (pickA t23 (.bool true) t27) fun t28_1 =>
wIf t28_1 (
opP (pickA t28_1 (.bool true) undef) fun t43_1 =>
J [(nth l 0), (nth l 1), (nth l 2), (nth l 3), t19, t20, t21, t43_1] H1) (
opP ((binC P .eql 5 true).f (nth l 3) (.int .u8 2)) fun t31 =>
wIf t31 (
opP ((binC P .eql 36 true).f t19 (.int .u64 0)) fun t34 =>
wIf t34 (
opP (pickA t34 (.bool true) undef) fun t41 =>
opP (pickA t31 t41 (.bool false)) fun t42 =>
opP (pickA t28_1 (.bool true) t42) fun t43_2 =>
J [(nth l 0), (nth l 1), (nth l 2), (nth l 3), t19, t20, t21, t43_2] H1) (
opP ((binC P .sub 36 true).f t19 (.int .u64 1)) fun t37 =>
opP (offPtr 2 (nth l 1)) fun t38 =>
opW (loadOne t38 H1) fun t39 H21 =>
opP ((binC P .neq 36 false).f t37 t39) fun t40 =>
opP (pickA t34 (.bool true) t40) fun t41_1 =>
opP (pickA t31 t41_1 (.bool false)) fun t42_1 =>
opP (pickA t28_1 (.bool true) t42_1) fun t43_3 =>
J [(nth l 0), (nth l 1), (nth l 2), (nth l 3), t19, t20, t21, t43_3] H21)) (
opP (pickA t31 undef (.bool false)) fun t42_2 =>
opP (pickA t28_1 (.bool true) t42_2) fun t43_4 =>
J [(nth l 0), (nth l 1), (nth l 2), (nth l 3), t19, t20, t21, t43_4] H1)))) (fun l_1 H29 =>
wIf (nth l_1 7) (
opW (loadAgg 3 (nth l_1 1) H29) fun t44 H31 =>
opW (storeTo 3 (nth l_1 0) t44 H31) fun u H33 =>
Qr [(nth l_1 0)] H33) (
wJoin (fun J_1 =>
opP ((binC P .eql 5 true).f (nth l_1 3) (.int .u8 1)) fun t46 =>
wIf t46 (
opP (offPtr 1 (nth l_1 1)) fun t48 =>
opW (storeTo 1 t48 (nth l_1 4) H29) fun u_1 H38 =>
J_1 [(nth l_1 0), (nth l_1 1), (nth l_1 2), (nth l_1 4), (nth l_1 5), (nth l_1 6)] H38) (
J_1 [(nth l_1 0), (nth l_1 1), (nth l_1 2), (nth l_1 4), (nth l_1 5), (nth l_1 6)] H29)) (fun l_2 H40 =>
opP (offPtr 2 (nth l_2 1)) fun t50 =>
opW (storeTo 1 t50 (nth l_2 3) H40) fun u_2 H43 =>
opP (offPtr 0 (nth l_2 1)) fun t51 =>
opW (loadOne t51 H43) fun t52 H46 =>
opW ((buildSliceC P 24 1).f [(0, (nth l_2 4))] H46) fun t54 H48 =>
opW (appendWith 1 24 t52 t54 H48) fun t55 H50 =>
opP (offPtr 0 (nth l_2 1)) fun t56 =>
opW (storeTo 1 t56 t55 H50) fun u_3 H53 =>
opP (sliceSl 64 (nth l_2 2) (some (nth l_2 5)) none none) fun t59 =>
N [(nth l_2 0), (nth l_2 1), t59, (.int .u8 2)] H53)))
theorem journal_stands_L0_eq (l : List Value) (H : Heap) (N : List Value → Heap → Prop) (Qx : Nat → List Value → Heap → Prop) (Qr : List Value → Heap → Prop) : vcC P true 60 journal_stands_P0 (live journal_stands_P0 0 16) 16 (envOf (bits 60 (live journal_stands_P0 0 16)) l) H (loopQ 60 journal_stands_P0 16 N Qx Qr) = journal_stands_L0 l H N Qx Qr := by kernel_rfl
theorem journal_stands_L0_ind (I : Nat → List Value → Heap → Prop) (Qx : Nat → List Value → Heap → Prop) (Qr : List Value → Heap → Prop) (hs : ∀ k l H, I k l H → journal_stands_L0 l H (fun l H => ∃ k', k' < k ∧ I k' l H) Qx Qr) (k : Nat) (l : List Value) (H : Heap) (h : I k l H) : wLoop P true 60 journal_stands_P0 16 l H Qx Qr :=
  loop_ind (by kernel_rfl) I (fun k l H h => (journal_stands_L0_eq l H _ Qx Qr).mpr (hs k l H h)) k l H h
def journal_stands (t0 t1 : Value) (H : Heap) (K : Value → Heap → Prop) : Prop :=
wNew (zc P 56) H fun t4 H1 =>
wNew (zc P 56) H1 fun t5 H3 =>
wCall P n_journal_sectors [t0, t1] H3 fun t14 H5 =>
wLoop P true 60 journal_stands_P0 16 [t4, t5, t14, (.int .u8 1)] H5 (fun id l H7 =>
cond (Nat.beq id 0) (
opW (loadAgg 3 (nth l 0) H7) fun r _ =>
K r H7) (
False)) (fun l H7 =>
opW (loadAgg 3 (nth l 0) H7) fun r_1 _ =>
K r_1 H7)
theorem journal_stands_eq (t0 t1 : Value) (H : Heap) (K : Value → Heap → Prop) : vcF P n_journal_stands [t0, t1] H K = journal_stands t0 t1 H K := by kernel_rfl
theorem journal_stands_ok {t0 t1 : Value} {H : Heap} {K : Value → Heap → Prop} (h : journal_stands t0 t1 H K) : wCall P n_journal_stands [t0, t1] H K := wCall_of_vcF rfl ((journal_stands_eq t0 t1 H K).mpr h)

/-! bootjack/part.New -/
noncomputable abbrev part_New_P0 : Code := loopAt P n_part_New 0
/-- loop 0: goes on from the slots [0, 4, 5, 6, 7, 21, 22, 23]; leaves [4, 5, 6] -/
def part_New_L0 (l : List Value) (H : Heap) (N : List Value → Heap → Prop) (Qx : Nat → List Value → Heap → Prop) (Qr : List Value → Heap → Prop) : Prop :=
opP ((binC P .lss 3 false).f (nth l 7) (nth l 6)) fun t24 =>
wIf t24 (
opP (idxSl 1 (nth l 5) (nth l 7)) fun t25 =>
opW (loadOne t25 H) fun t26 H3 =>
wJoin (fun J =>
opP ((binC P .lss 3 true).f t26 (.int .i64 1)) fun t28 =>
wIf t28 (
opP (pickA t28 (.bool true) undef) fun t36 =>
J [(nth l 0), (nth l 1), (nth l 2), (nth l 3), (nth l 4), t26, (nth l 5), (nth l 6), (nth l 7), t36] H3) (
wCall P n_flash_Device_Size [(nth l 0)] H3 fun t32 H8 =>
opP ((binC P .sub 3 false).f t32 (nth l 4)) fun t34 =>
opP ((binC P .gtr 3 false).f t26 t34) fun t35 =>
opP (pickA t28 (.bool true) t35) fun t36_1 =>
J [(nth l 0), (nth l 1), (nth l 2), (nth l 3), (nth l 4), t26, (nth l 5), (nth l 6), (nth l 7), t36_1] H8)) (fun l_1 H13 =>
wIf (nth l_1 9) (
Qr [(.pointer none), (.int .i64 71), (nth l_1 3)] H13) (
opP (nilCheckA (nth l_1 3)) fun t39 =>
opP (offPtr 1 t39) fun t40 =>
opW (loadOne t40 H13) fun t41 H17 =>
opP ((buildC P 85).f [(0, (nth l_1 4)), (1, (nth l_1 5))]) fun t44 =>
opW ((buildSliceC P 67 1).f [(0, t44)] H17) fun t45 H20 =>
opW (appendWith 2 16 t41 t45 H20) fun t46 H22 =>
opP (nilCheckA (nth l_1 3)) fun t47 =>
opP (offPtr 1 t47) fun t48 =>
opW (storeTo 1 t48 t46 H22) fun u H26 =>
opP ((binC P .add 3 false).f (nth l_1 4) (nth l_1 5)) fun t51 =>
opP ((binC P .add 3 true).f (nth l_1 8) (.int .i64 1)) fun t52 =>
N [(nth l_1 0), (nth l_1 1), (nth l_1 2), (nth l_1 3), t51, (nth l_1 6), (nth l_1 7), t52] H26))) (
Qx 0 [(nth l 1), (nth l 2), (nth l 3)] H)
theorem part_New_L0_eq (l : List Value) (H : Heap) (N : List Value → Heap → Prop) (Qx : Nat → List Value → Heap → Prop) (Qr : List Value → Heap → Prop) : vcC P true 54 part_New_P0 (live part_New_P0 0 112) 112 (envOf (bits 54 (live part_New_P0 0 112)) l) H (loopQ 54 part_New_P0 112 N Qx Qr) = part_New_L0 l H N Qx Qr := by kernel_rfl
theorem part_New_L0_ind (I : Nat → List Value → Heap → Prop) (Qx : Nat → List Value → Heap → Prop) (Qr : List Value → Heap → Prop) (hs : ∀ k l H, I k l H → part_New_L0 l H (fun l H => ∃ k', k' < k ∧ I k' l H) Qx Qr) (k : Nat) (l : List Value) (H : Heap) (h : I k l H) : wLoop P true 54 part_New_P0 112 l H Qx Qr :=
  loop_ind (by kernel_rfl) I (fun k l H h => (part_New_L0_eq l H _ Qx Qr).mpr (hs k l H h)) k l H h
def part_New (t0 t1 : Value) (H : Heap) (K : Value → Heap → Prop) : Prop :=
wJoin (fun J =>
opW (lenSl t1 H) fun t11 H2 =>
opP ((binC P .eql 3 true).f t11 (.int .i64 0)) fun t12 =>
wIf t12 (
opP (pickA t12 (.bool true) undef) fun t17 =>
J [t0, t1, (.pointer none), (.int .i64 0), t17] H2) (
opW (lenSl t1 H2) fun t15 H6 =>
opP ((binC P .gtr 3 true).f t15 (.int .i64 16)) fun t16 =>
opP (pickA t12 (.bool true) t16) fun t17_1 =>
J [t0, t1, (.pointer none), (.int .i64 0), t17_1] H6)) (fun l H10 =>
wIf (nth l 4) (
K (.tuple [(.pointer none), (.int .i64 71)].toArray) H10) (
opP ((buildC P 69).f [(0, (nth l 0))]) fun t19 =>
wNew (cellsL t19) H10 fun t20 H13 =>
opW (lenSl (nth l 1) H13) fun t22 H15 =>
wLoop P true 54 part_New_P0 112 [(nth l 0), (nth l 2), (nth l 3), t20, (.int .i64 0), (nth l 1), t22, (.int .i64 0)] H15 (fun id l_1 H17 =>
cond (Nat.beq id 0) (
K (.tuple [(nth l_1 2), (.int .i64 0)].toArray) H17) (
False)) (fun l_1 H17 =>
K (.tuple [(nth l_1 0), (nth l_1 1)].toArray) H17)))
theorem part_New_eq (t0 t1 : Value) (H : Heap) (K : Value → Heap → Prop) : vcF P n_part_New [t0, t1] H K = part_New t0 t1 H K := by kernel_rfl
theorem part_New_ok {t0 t1 : Value} {H : Heap} {K : Value → Heap → Prop} (h : part_New t0 t1 H K) : wCall P n_part_New [t0, t1] H K := wCall_of_vcF rfl ((part_New_eq t0 t1 H K).mpr h)

/-! bootjack/flash.New -/
noncomputable abbrev flash_New_P0 : Code := loopAt P n_flash_New 0
/-- loop 0: goes on from the slots [4, 5, 20, 21]; leaves [4, 5] -/
def flash_New_L0 (l : List Value) (H : Heap) (N : List Value → Heap → Prop) (Qx : Nat → List Value → Heap → Prop) (Qr : List Value → Heap → Prop) : Prop :=
opP ((binC P .lss 3 false).f (nth l 3) (nth l 2)) fun t22 =>
wIf t22 (
opP (nilCheckA (nth l 1)) fun t25 =>
opP (offPtr 0 t25) fun t26 =>
opW (loadOne t26 H) fun t27 H4 =>
wCall P n_flash_Blank [] H4 fun t29 H6 =>
cSame (sameB H4 H6) (idsOf [t26]) ∧ (wCall P n_flash_Blank [] H6 fun t30 H8 =>
cSame (sameB H6 H8) (idsOf [t26]) ∧ (opP ((buildC P 79).f [(0, t29), (1, t30)]) fun t31 =>
opP (idxSl 129 t27 (nth l 3)) fun t32 =>
opW (storeTo 129 t32 t31 H8) fun u H12 =>
opP ((binC P .add 3 true).f (nth l 3) (.int .i64 1)) fun t33 =>
N [(nth l 0), (nth l 1), (nth l 2), t33] H12))) (
Qx 0 [(nth l 0), (nth l 1)] H)
theorem flash_New_L0_eq (l : List Value) (H : Heap) (N : List Value → Heap → Prop) (Qx : Nat → List Value → Heap → Prop) (Qr : List Value → Heap → Prop) : vcC P true 35 flash_New_P0 (live flash_New_P0 0 48) 48 (envOf (bits 35 (live flash_New_P0 0 48)) l) H (loopQ 35 flash_New_P0 48 N Qx Qr) = flash_New_L0 l H N Qx Qr := by kernel_rfl
theorem flash_New_L0_ind (I : Nat → List Value → Heap → Prop) (Qx : Nat → List Value → Heap → Prop) (Qr : List Value → Heap → Prop) (hs : ∀ k l H, I k l H → flash_New_L0 l H (fun l H => ∃ k', k' < k ∧ I k' l H) Qx Qr) (k : Nat) (l : List Value) (H : Heap) (h : I k l H) : wLoop P true 35 flash_New_P0 48 l H Qx Qr :=
  loop_ind (by kernel_rfl) I (fun k l H h => (flash_New_L0_eq l H _ Qx Qr).mpr (hs k l H h)) k l H h
def flash_New (t0 t1 : Value) (H : Heap) (K : Value → Heap → Prop) : Prop :=
opW (withH H (minA [t0, (.int .i64 4096)])) fun t8 H1 =>
opW (withH H1 (maxA [(.int .i64 0), t8])) fun t9 H3 =>
opW ((makeSliceC P 70).f t9 t9 H3) fun t10 H5 =>
opW (withH H5 (minA [t1, (.int .i64 100000)])) fun t12 H7 =>
opW (withH H7 (maxA [(.int .i64 0), t12])) fun t13 H9 =>
opP ((buildC P 73).f [(0, t10), (2, t13), (3, (.int .i64 (-1)))]) fun t14 =>
wNew (cellsL t14) H9 fun t15 H12 =>
opP (nilCheckA t15) fun t17 =>
opP (offPtr 0 t17) fun t18 =>
opW (loadOne t18 H12) fun t19 H16 =>
opW (lenSl t19 H16) fun t20 H18 =>
wLoop P true 35 flash_New_P0 48 [(.pointer none), t15, t20, (.int .i64 0)] H18 (fun id l H20 =>
cond (Nat.beq id 0) (
K (nth l 1) H20) (
False)) (fun l H20 =>
K (nth l 0) H20)
theorem flash_New_eq (t0 t1 : Value) (H : Heap) (K : Value → Heap → Prop) : vcF P n_flash_New [t0, t1] H K = flash_New t0 t1 H K := by kernel_rfl
theorem flash_New_ok {t0 t1 : Value} {H : Heap} {K : Value → Heap → Prop} (h : flash_New t0 t1 H K) : wCall P n_flash_New [t0, t1] H K := wCall_of_vcF rfl ((flash_New_eq t0 t1 H K).mpr h)

/-! bootjack/frame.Put -/
noncomputable abbrev frame_Put_RP0 : List Tmp × Code × Code := rangeAt P n_frame_Put 0
/-- range 0: of the slots [7, 18] -/
def frame_Put_R0 (vals args : List Value) (l : Nat) (H : Heap) (K : Value → Heap → Prop) : Prop :=
wBegin l H fun H0 =>
wCall P n_flash_Blank [] H0 fun t19 H2 =>
wNew (zc P 75) H2 fun t9 H4 =>
opW (storeTo 64 t9 t19 H4) fun u H6 =>
opP (sliceArr 64 1 t9 none none none H6) fun t20 =>
opW (copyTo 1 t20 (nth args 0) H6) fun t22 H9 =>
opP (idxPtr 64 1 t9 (.int .i64 63)) fun t23 =>
opW (storeTo 1 t23 (.int .u8 0) H9) fun u_1 H12 =>
opW (loadOne (nth vals 0) H12) fun t24 H14 =>
opW (loadAgg 64 t9 H14) fun t25 H16 =>
opW ((buildSliceC P 61 1).f [(0, t25)] H16) fun t26 H18 =>
opW (appendWith 64 64 t24 t26 H18) fun t27 H20 =>
opW (storeTo 1 (nth vals 0) t27 H20) fun u_2 H22 =>
wEnd l .normal H22 K
theorem frame_Put_R0_eq (vals args : List Value) (l : Nat) (H : Heap) (K : Value → Heap → Prop) : vcRound P 29 frame_Put_RP0.1 frame_Put_RP0.2.1 frame_Put_RP0.2.2 vals args l H K = frame_Put_R0 vals args l H K := by kernel_rfl
def frame_Put (t0 t1 t2 : Value) (H : Heap) (K : Value → Heap → Prop) : Prop :=
opW (lenSl t2 H) fun t11 H1 =>
opP ((binC P .gtr 3 true).f t11 (.int .i64 4000)) fun t12 =>
wIf t12 (
K (.slice none 0 0) H1) (
wNew (zc P 61) H1 fun t7 H4 =>
wCall P n_frame_sealed [t0, t1, t2] H4 fun t16 H6 =>
wCall P n_slices_Chunk_byte_byte [t16, (.int .i64 63)] H6 fun t17 H8 =>
wRange P 29 frame_Put_RP0.1 frame_Put_RP0.2.1 frame_Put_RP0.2.2 [t7, undef] t17 H8 (fun H9 =>
opW (loadOne t7 H9) fun t28 H11 =>
K t28 H11) (fun id H9 =>
cond (Nat.beq id 0) (
opW (loadOne t7 H9) fun t28_1 H13 =>
K t28_1 H13) (
False)) (fun H9 =>
K (.slice none 0 0) H9))
theorem frame_Put_eq (t0 t1 t2 : Value) (H : Heap) (K : Value → Heap → Prop) : vcF P n_frame_Put [t0, t1, t2] H K = frame_Put t0 t1 t2 H K := by kernel_rfl
theorem frame_Put_ok {t0 t1 t2 : Value} {H : Heap} {K : Value → Heap → Prop} (h : frame_Put t0 t1 t2 H K) : wCall P n_frame_Put [t0, t1, t2] H K := wCall_of_vcF rfl ((frame_Put_eq t0 t1 t2 H K).mpr h)

/-! (*bootjack/journal.Journal).write -/
noncomputable abbrev journal_Journal_write_P0 : Code := loopAt P n_journal_Journal_write 0
/-- loop 0: goes on from the slots [0, 1, 2, 8, 12, 13, 14]; leaves [0, 8] -/
def journal_Journal_write_L0 (l : List Value) (H : Heap) (N : List Value → Heap → Prop) (Qx : Nat → List Value → Heap → Prop) (Qr : List Value → Heap → Prop) : Prop :=
opP ((binC P .lss 3 false).f (nth l 6) (nth l 5)) fun t15 =>
wIf t15 (
opP (idxSl 64 (nth l 4) (nth l 6)) fun t17 =>
opW (loadAgg 64 t17 H) fun t18 H3 =>
wNew (zc P 75) H3 fun t10 H5 =>
opW (storeTo 64 t10 t18 H5) fun u H7 =>
opP (nilCheckA (nth l 0)) fun t20 =>
opP (offPtr 0 t20) fun t21 =>
opW (loadOne t21 H7) fun t22 H11 =>
opP ((binC P .add 3 false).f (nth l 2) (nth l 6)) fun t26 =>
opW (loadAgg 64 t10 H11) fun t27 H14 =>
wCall P n_part_Map_Program [t22, (nth l 1), t26, t27] H14 fun t28 H16 =>
opP ((binC P .neq 30 true).f t28 (.int .i64 0)) fun t30 =>
wIf t30 (
Qr [(nth l 0), t28] H16) (
opP ((binC P .add 3 true).f (nth l 6) (.int .i64 1)) fun t32 =>
N [(nth l 0), (nth l 1), (nth l 2), (nth l 3), (nth l 4), (nth l 5), t32] H16)) (
Qx 0 [(nth l 0), (nth l 3)] H)
theorem journal_Journal_write_L0_eq (l : List Value) (H : Heap) (N : List Value → Heap → Prop) (Qx : Nat → List Value → Heap → Prop) (Qr : List Value → Heap → Prop) : vcC P true 38 journal_Journal_write_P0 (live journal_Journal_write_P0 0 257) 257 (envOf (bits 38 (live journal_Journal_write_P0 0 257)) l) H (loopQ 38 journal_Journal_write_P0 257 N Qx Qr) = journal_Journal_write_L0 l H N Qx Qr := by kernel_rfl
theorem journal_Journal_write_L0_ind (I : Nat → List Value → Heap → Prop) (Qx : Nat → List Value → Heap → Prop) (Qr : List Value → Heap → Prop) (hs : ∀ k l H, I k l H → journal_Journal_write_L0 l H (fun l H => ∃ k', k' < k ∧ I k' l H) Qx Qr) (k : Nat) (l : List Value) (H : Heap) (h : I k l H) : wLoop P true 38 journal_Journal_write_P0 257 l H Qx Qr :=
  loop_ind (by kernel_rfl) I (fun k l H h => (journal_Journal_write_L0_eq l H _ Qx Qr).mpr (hs k l H h)) k l H h
def journal_Journal_write (t0 t1 t2 t3 : Value) (H : Heap) (K : Value → Heap → Prop) : Prop :=
opW (lenSl t3 H) fun t13 H1 =>
wLoop P true 38 journal_Journal_write_P0 257 [t0, t1, t2, (.int .i64 0), t3, t13, (.int .i64 0)] H1 (fun id l H3 =>
cond (Nat.beq id 0) (
opP (nilCheckA (nth l 0)) fun t34 =>
opP (offPtr 0 t34) fun t35 =>
opW (loadOne t35 H3) fun t36 H7 =>
wCall P n_part_Map_Sync [t36] H7 fun t37 H9 =>
K t37 H9) (
False)) (fun l H3 =>
K (nth l 1) H3)
theorem journal_Journal_write_eq (t0 t1 t2 t3 : Value) (H : Heap) (K : Value → Heap → Prop) : vcF P n_journal_Journal_write [t0, t1, t2, t3] H K = journal_Journal_write t0 t1 t2 t3 H K := by kernel_rfl
theorem journal_Journal_write_ok {t0 t1 t2 t3 : Value} {H : Heap} {K : Value → Heap → Prop} (h : journal_Journal_write t0 t1 t2 t3 H K) : wCall P n_journal_Journal_write [t0, t1, t2, t3] H K := wCall_of_vcF rfl ((journal_Journal_write_eq t0 t1 t2 t3 H K).mpr h)

/-! (*bootjack/part.Map).Wipe -/
noncomputable abbrev part_Map_Wipe_P0 : Code := loopAt P n_part_Map_Wipe 0
/-- loop 0: goes on from the slots [0, 1, 4, 15, 16]; leaves [4] -/
def part_Map_Wipe_L0 (l : List Value) (H : Heap) (N : List Value → Heap → Prop) (Qx : Nat → List Value → Heap → Prop) (Qr : List Value → Heap → Prop) : Prop :=
opP ((binC P .lss 3 false).f (nth l 4) (nth l 3)) fun t17 =>
wIf t17 (
wCall P n_part_Map_Read [(nth l 0), (nth l 1), (nth l 4)] H fun t23 H2 =>
opP (extA 0 t23) fun t24 =>
opP (extA 1 t23) fun t25 =>
wNew (zc P 75) H2 fun t6 H6 =>
opW (storeTo 64 t6 t24 H6) fun u H8 =>
opW (loadAgg 64 t6 H8) fun t26 H10 =>
wCall P n_flash_Blank [] H10 fun t27 H12 =>
cSame (sameB H10 H12) (idsOf [t6]) ∧ (opP ((binC P .eql 75 false).f t26 t27) fun t28 =>
wIf t28 (
opP ((binC P .add 3 true).f (nth l 4) (.int .i64 1)) fun t36 =>
N [(nth l 0), (nth l 1), (nth l 2), (nth l 3), t36] H12) (
wCall P n_part_Map_Erase [(nth l 0), (nth l 1), (nth l 4)] H12 fun t32 H16 =>
opP ((binC P .neq 30 true).f t32 (.int .i64 0)) fun t34 =>
wIf t34 (
Qr [t32] H16) (
opP ((binC P .add 3 true).f (nth l 4) (.int .i64 1)) fun t36_1 =>
N [(nth l 0), (nth l 1), (nth l 2), (nth l 3), t36_1] H16)))) (
Qx 0 [(nth l 2)] H)
theorem part_Map_Wipe_L0_eq (l : List Value) (H : Heap) (N : List Value → Heap → Prop) (Qx : Nat → List Value → Heap → Prop) (Qr : List Value → Heap → Prop) : vcC P true 37 part_Map_Wipe_P0 (live part_Map_Wipe_P0 0 16) 16 (envOf (bits 37 (live part_Map_Wipe_P0 0 16)) l) H (loopQ 37 part_Map_Wipe_P0 16 N Qx Qr) = part_Map_Wipe_L0 l H N Qx Qr := by kernel_rfl
theorem part_Map_Wipe_L0_ind (I : Nat → List Value → Heap → Prop) (Qx : Nat → List Value → Heap → Prop) (Qr : List Value → Heap → Prop) (hs : ∀ k l H, I k l H → part_Map_Wipe_L0 l H (fun l H => ∃ k', k' < k ∧ I k' l H) Qx Qr) (k : Nat) (l : List Value) (H : Heap) (h : I k l H) : wLoop P true 37 part_Map_Wipe_P0 16 l H Qx Qr :=
  loop_ind (by kernel_rfl) I (fun k l H h => (part_Map_Wipe_L0_eq l H _ Qx Qr).mpr (hs k l H h)) k l H h
def part_Map_Wipe (t0 t1 : Value) (H : Heap) (K : Value → Heap → Prop) : Prop :=
wCall P n_part_Map_has [t0, t1] H fun t11 H1 =>
opP (unA .not t11) fun t12 =>
wIf t12 (
K (.int .i64 71) H1) (
wCall P n_part_Map_Size [t0, t1] H1 fun t15 H4 =>
wLoop P true 37 part_Map_Wipe_P0 16 [t0, t1, (.int .i64 0), t15, (.int .i64 0)] H4 (fun id l H6 =>
cond (Nat.beq id 0) (
K (.int .i64 0) H6) (
False)) (fun l H6 =>
K (nth l 0) H6))
theorem part_Map_Wipe_eq (t0 t1 : Value) (H : Heap) (K : Value → Heap → Prop) : vcF P n_part_Map_Wipe [t0, t1] H K = part_Map_Wipe t0 t1 H K := by kernel_rfl
theorem part_Map_Wipe_ok {t0 t1 : Value} {H : Heap} {K : Value → Heap → Prop} (h : part_Map_Wipe t0 t1 H K) : wCall P n_part_Map_Wipe [t0, t1] H K := wCall_of_vcF rfl ((part_Map_Wipe_eq t0 t1 H K).mpr h)

/-! (*bootjack/part.Map).Sync -/
def part_Map_Sync (t0 : Value) (H : Heap) (K : Value → Heap → Prop) : Prop :=
opP (nilCheckA t0) fun t4 =>
opP (offPtr 0 t4) fun t5 =>
opW (loadOne t5 H) fun t6 H3 =>
wCall P n_flash_Device_Sync [t6] H3 fun t7 H5 =>
K t7 H5
theorem part_Map_Sync_eq (t0 : Value) (H : Heap) (K : Value → Heap → Prop) : vcF P n_part_Map_Sync [t0] H K = part_Map_Sync t0 H K := by kernel_rfl
theorem part_Map_Sync_ok {t0 : Value} {H : Heap} {K : Value → Heap → Prop} (h : part_Map_Sync t0 H K) : wCall P n_part_Map_Sync [t0] H K := wCall_of_vcF rfl ((part_Map_Sync_eq t0 H K).mpr h)

/-! bootjack/frame.Size -/
def frame_Size (t0 : Value) (H : Heap) (K : Value → Heap → Prop) : Prop :=
wJoin (fun J =>
opP ((binC P .lss 3 true).f t0 (.int .i64 0)) fun t4 =>
wIf t4 (
opP (pickA t4 (.bool true) undef) fun t8 =>
wIf t8 (
K (.int .i64 0) H) (
J [t0] H)) (
opP ((binC P .gtr 3 true).f t0 (.int .i64 4000)) fun t7 =>
opP (pickA t4 (.bool true) t7) fun t8_1 =>
wIf t8_1 (
K (.int .i64 0) H) (
J [t0] H))) (fun l H6 =>
opP ((binC P .add 3 true).f (.int .i64 13) (nth l 0)) fun t10 =>
opP ((binC P .add 3 true).f t10 (.int .i64 4)) fun t11 =>
opP ((binC P .add 3 true).f t11 (.int .i64 63)) fun t12 =>
opP ((binC P .sub 3 true).f t12 (.int .i64 1)) fun t13 =>
opP ((binC P .quo 3 true).f t13 (.int .i64 63)) fun t14 =>
K t14 H6)
theorem frame_Size_eq (t0 : Value) (H : Heap) (K : Value → Heap → Prop) : vcF P n_frame_Size [t0] H K = frame_Size t0 H K := by kernel_rfl
theorem frame_Size_ok {t0 : Value} {H : Heap} {K : Value → Heap → Prop} (h : frame_Size t0 H K) : wCall P n_frame_Size [t0] H K := wCall_of_vcF rfl ((frame_Size_eq t0 H K).mpr h)

/-! (*bootjack/part.Map).Size -/
def part_Map_Size (t0 t1 : Value) (H : Heap) (K : Value → Heap → Prop) : Prop :=
wCall P n_part_Map_has [t0, t1] H fun t7 H1 =>
opP (unA .not t7) fun t8 =>
wIf t8 (
K (.int .i64 0) H1) (
opP (nilCheckA t0) fun t10 =>
opP (offPtr 1 t10) fun t11 =>
opW (loadOne t11 H1) fun t12 H6 =>
opP (idxSl 2 t12 t1) fun t14 =>
opP (offPtr 1 t14) fun t15 =>
opW (loadOne t15 H6) fun t16 H10 =>
K t16 H10)
theorem part_Map_Size_eq (t0 t1 : Value) (H : Heap) (K : Value → Heap → Prop) : vcF P n_part_Map_Size [t0, t1] H K = part_Map_Size t0 t1 H K := by kernel_rfl
theorem part_Map_Size_ok {t0 t1 : Value} {H : Heap} {K : Value → Heap → Prop} (h : part_Map_Size t0 t1 H K) : wCall P n_part_Map_Size [t0, t1] H K := wCall_of_vcF rfl ((part_Map_Size_eq t0 t1 H K).mpr h)

/-! bootjack/journal.sectors -/
noncomputable abbrev journal_sectors_P0 : Code := loopAt P n_journal_sectors 0
/-- loop 0: goes on from the slots [0, 1, 4, 5, 11, 12]; leaves [4, 5] -/
def journal_sectors_L0 (l : List Value) (H : Heap) (N : List Value → Heap → Prop) (Qx : Nat → List Value → Heap → Prop) (Qr : List Value → Heap → Prop) : Prop :=
opP ((binC P .lss 3 false).f (nth l 5) (nth l 4)) fun t13 =>
wIf t13 (
wCall P n_part_Map_Read [(nth l 0), (nth l 1), (nth l 5)] H fun t19 H2 =>
opP (extA 0 t19) fun t20 =>
opP (extA 1 t19) fun t21 =>
wNew (zc P 75) H2 fun t7 H6 =>
opW (storeTo 64 t7 t20 H6) fun u H8 =>
opW (loadAgg 64 t7 H8) fun t23 H10 =>
opW ((buildSliceC P 61 1).f [(0, t23)] H10) fun t24 H12 =>
opW (appendWith 64 64 (nth l 3) t24 H12) fun t25 H14 =>
opP ((binC P .add 3 true).f (nth l 5) (.int .i64 1)) fun t26 =>
N [(nth l 0), (nth l 1), (nth l 2), t25, (nth l 4), t26] H14) (
Qx 0 [(nth l 2), (nth l 3)] H)
theorem journal_sectors_L0_eq (l : List Value) (H : Heap) (N : List Value → Heap → Prop) (Qx : Nat → List Value → Heap → Prop) (Qr : List Value → Heap → Prop) : vcC P true 28 journal_sectors_P0 (live journal_sectors_P0 0 48) 48 (envOf (bits 28 (live journal_sectors_P0 0 48)) l) H (loopQ 28 journal_sectors_P0 48 N Qx Qr) = journal_sectors_L0 l H N Qx Qr := by kernel_rfl
theorem journal_sectors_L0_ind (I : Nat → List Value → Heap → Prop) (Qx : Nat → List Value → Heap → Prop) (Qr : List Value → Heap → Prop) (hs : ∀ k l H, I k l H → journal_sectors_L0 l H (fun l H => ∃ k', k' < k ∧ I k' l H) Qx Qr) (k : Nat) (l : List Value) (H : Heap) (h : I k l H) : wLoop P true 28 journal_sectors_P0 48 l H Qx Qr :=
  loop_ind (by kernel_rfl) I (fun k l H h => (journal_sectors_L0_eq l H _ Qx Qr).mpr (hs k l H h)) k l H h
def journal_sectors (t0 t1 : Value) (H : Heap) (K : Value → Heap → Prop) : Prop :=
wCall P n_part_Map_Size [t0, t1] H fun t11 H1 =>
wLoop P true 28 journal_sectors_P0 48 [t0, t1, (.slice none 0 0), (.slice none 0 0), t11, (.int .i64 0)] H1 (fun id l H3 =>
cond (Nat.beq id 0) (
K (nth l 1) H3) (
False)) (fun l H3 =>
K (nth l 0) H3)
theorem journal_sectors_eq (t0 t1 : Value) (H : Heap) (K : Value → Heap → Prop) : vcF P n_journal_sectors [t0, t1] H K = journal_sectors t0 t1 H K := by kernel_rfl
theorem journal_sectors_ok {t0 t1 : Value} {H : Heap} {K : Value → Heap → Prop} (h : journal_sectors t0 t1 H K) : wCall P n_journal_sectors [t0, t1] H K := wCall_of_vcF rfl ((journal_sectors_eq t0 t1 H K).mpr h)

/-! bootjack/frame.Get -/
def frame_Get (t0 : Value) (H : Heap) (K : Value → Heap → Prop) : Prop :=
opW (lenSl t0 H) fun t14 H1 =>
opP ((binC P .eql 3 true).f t14 (.int .i64 0)) fun t15 =>
wIf t15 (
K (.tuple [(.int .u8 0), (.int .u64 0), (.slice none 0 0), (.int .i64 0)].toArray) H1) (
opP (idxSl 64 t0 (.int .i64 0)) fun t17 =>
opP (sliceArr 64 1 t17 none none none H1) fun t18 =>
wCall P n_code_New [t18] H1 fun t19 H6 =>
wCall P n_code_Reader_Raw [t19, (.int .i64 2)] H6 fun t21 H8 =>
wCall P n_code_Reader_Fixed [t19, (.int .i64 1)] H8 fun t23 H10 =>
opW (cvInt .u8 t23 H10) fun t24 H12 =>
wCall P n_code_Reader_Fixed [t19, (.int .i64 8)] H12 fun t26 H14 =>
wCall P n_code_Reader_Fixed [t19, (.int .i64 2)] H14 fun t28 H16 =>
opW (cvInt .i64 t28 H16) fun t29 H18 =>
wCall P n_frame_Size [t29] H18 fun t31 H20 =>
wJoin (fun J =>
opW (bytesToStr t21 H20) fun t33 H23 =>
opP ((binC P .neq 9 true).f t33 (.string ⟨#[66, 74]⟩)) fun t34 =>
wIf t34 (
opP (pickA t34 (.bool true) undef) fun t38 =>
opP (pickA t38 (.bool true) undef) fun t44 =>
J [t0, t24, t26, t29, t31, t44] H23) (
opP ((binC P .eql 3 true).f t31 (.int .i64 0)) fun t37 =>
opP (pickA t34 (.bool true) t37) fun t38_1 =>
wIf t38_1 (
opP (pickA t38_1 (.bool true) undef) fun t44_1 =>
J [t0, t24, t26, t29, t31, t44_1] H23) (
opW (lenSl t0 H23) fun t42 H31 =>
opP ((binC P .gtr 3 false).f t31 t42) fun t43 =>
opP (pickA t38_1 (.bool true) t43) fun t44_2 =>
J [t0, t24, t26, t29, t31, t44_2] H31))) (fun l H35 =>
wIf (nth l 5) (
K (.tuple [(.int .u8 0), (.int .u64 0), (.slice none 0 0), (.int .i64 0)].toArray) H35) (
opP (sliceSl 64 (nth l 0) none (some (nth l 4)) none) fun t47 =>
wCall P n_frame_plain [t47] H35 fun t48 H38 =>
opP ((binC P .add 3 true).f (.int .i64 13) (nth l 3)) fun t50 =>
opP (sliceSl 1 t48 (some (.int .i64 13)) (some t50) none) fun t51 =>
wCall P n_frame_Put [(nth l 1), (nth l 2), t51] H38 fun t55 H42 =>
opP (sliceSl 64 (nth l 0) none (some (nth l 4)) none) fun t58 =>
wCall P n_slices_Equal_api_Sector_api_Sector [t55, t58] H42 fun t59 H45 =>
opP (unA .not t59) fun t60 =>
wIf t60 (
K (.tuple [(.int .u8 0), (.int .u64 0), (.slice none 0 0), (.int .i64 0)].toArray) H45) (
wCall P n_slices_Clone_byte_byte [t51] H45 fun t64 H48 =>
K (.tuple [(nth l 1), (nth l 2), t64, (nth l 4)].toArray) H48))))
theorem frame_Get_eq (t0 : Value) (H : Heap) (K : Value → Heap → Prop) : vcF P n_frame_Get [t0] H K = frame_Get t0 H K := by kernel_rfl
theorem frame_Get_ok {t0 : Value} {H : Heap} {K : Value → Heap → Prop} (h : frame_Get t0 H K) : wCall P n_frame_Get [t0] H K := wCall_of_vcF rfl ((frame_Get_eq t0 H K).mpr h)

/-! (*bootjack/flash.Device).Size -/
def flash_Device_Size (t0 : Value) (H : Heap) (K : Value → Heap → Prop) : Prop :=
opP (nilCheckA t0) fun t4 =>
opP (offPtr 0 t4) fun t5 =>
opW (loadOne t5 H) fun t6 H3 =>
opW (lenSl t6 H3) fun t7 H5 =>
K t7 H5
theorem flash_Device_Size_eq (t0 : Value) (H : Heap) (K : Value → Heap → Prop) : vcF P n_flash_Device_Size [t0] H K = flash_Device_Size t0 H K := by kernel_rfl
theorem flash_Device_Size_ok {t0 : Value} {H : Heap} {K : Value → Heap → Prop} (h : flash_Device_Size t0 H K) : wCall P n_flash_Device_Size [t0] H K := wCall_of_vcF rfl ((flash_Device_Size_eq t0 H K).mpr h)

/-! bootjack/flash.Blank -/
noncomputable abbrev flash_Blank_P0 : Code := loopAt P n_flash_Blank 0
/-- loop 0: goes on from the slots [0, 1, 3]; leaves [0, 1] -/
def flash_Blank_L0 (l : List Value) (H : Heap) (N : List Value → Heap → Prop) (Qx : Nat → List Value → Heap → Prop) (Qr : List Value → Heap → Prop) : Prop :=
opP ((binC P .lss 3 true).f (nth l 2) (.int .i64 64)) fun t4 =>
wIf t4 (
opP (idxPtr 64 1 (nth l 1) (nth l 2)) fun t7 =>
opW (storeTo 1 t7 (.int .u8 255) H) fun u H3 =>
opP ((binC P .add 3 true).f (nth l 2) (.int .i64 1)) fun t8 =>
N [(nth l 0), (nth l 1), t8] H3) (
Qx 0 [(nth l 0), (nth l 1)] H)
theorem flash_Blank_L0_eq (l : List Value) (H : Heap) (N : List Value → Heap → Prop) (Qx : Nat → List Value → Heap → Prop) (Qr : List Value → Heap → Prop) : vcC P true 10 flash_Blank_P0 (live flash_Blank_P0 0 3) 3 (envOf (bits 10 (live flash_Blank_P0 0 3)) l) H (loopQ 10 flash_Blank_P0 3 N Qx Qr) = flash_Blank_L0 l H N Qx Qr := by kernel_rfl
theorem flash_Blank_L0_ind (I : Nat → List Value → Heap → Prop) (Qx : Nat → List Value → Heap → Prop) (Qr : List Value → Heap → Prop) (hs : ∀ k l H, I k l H → flash_Blank_L0 l H (fun l H => ∃ k', k' < k ∧ I k' l H) Qx Qr) (k : Nat) (l : List Value) (H : Heap) (h : I k l H) : wLoop P true 10 flash_Blank_P0 3 l H Qx Qr :=
  loop_ind (by kernel_rfl) I (fun k l H h => (flash_Blank_L0_eq l H _ Qx Qr).mpr (hs k l H h)) k l H h
def flash_Blank (H : Heap) (K : Value → Heap → Prop) : Prop :=
wNew (zc P 75) H fun t0 H1 =>
wNew (zc P 75) H1 fun t1 H3 =>
wLoop P true 10 flash_Blank_P0 3 [t0, t1, (.int .i64 0)] H3 (fun id l H5 =>
cond (Nat.beq id 0) (
opW (loadAgg 64 (nth l 1) H5) fun t9 H7 =>
opW (storeTo 64 (nth l 0) t9 H7) fun u H9 =>
opW (loadAgg 64 (nth l 0) H9) fun r _ =>
K r H9) (
False)) (fun l H5 =>
opW (loadAgg 64 (nth l 0) H5) fun r_1 _ =>
K r_1 H5)
theorem flash_Blank_eq (H : Heap) (K : Value → Heap → Prop) : vcF P n_flash_Blank [] H K = flash_Blank  H K := by kernel_rfl
theorem flash_Blank_ok {H : Heap} {K : Value → Heap → Prop} (h : flash_Blank  H K) : wCall P n_flash_Blank [] H K := wCall_of_vcF rfl ((flash_Blank_eq  H K).mpr h)

/-! slices.Chunk[[]byte,byte] -/
def slices_Chunk_byte_byte (t0 t1 : Value) (H : Heap) (K : Value → Heap → Prop) : Prop :=
wNew (cellsL t0) H fun t2 H1 =>
wNew (cellsL t1) H1 fun t3 H3 =>
opW (loadOne t3 H3) fun t5 H5 =>
opP ((binC P .lss 3 true).f t5 (.int .i64 1)) fun t6 =>
wIf t6 (
False) (
K (.func (.func n_slices_Chunk_byte_byte_1) [].toArray [t2, t3].toArray) H5)
theorem slices_Chunk_byte_byte_eq (t0 t1 : Value) (H : Heap) (K : Value → Heap → Prop) : vcF P n_slices_Chunk_byte_byte [t0, t1] H K = slices_Chunk_byte_byte t0 t1 H K := by kernel_rfl
theorem slices_Chunk_byte_byte_ok {t0 t1 : Value} {H : Heap} {K : Value → Heap → Prop} (h : slices_Chunk_byte_byte t0 t1 H K) : wCall P n_slices_Chunk_byte_byte [t0, t1] H K := wCall_of_vcF rfl ((slices_Chunk_byte_byte_eq t0 t1 H K).mpr h)

/-! bootjack/frame.sealed -/
def frame_sealed (t0 t1 t2 : Value) (H : Heap) (K : Value → Heap → Prop) : Prop :=
opW ((buildSliceC P 32 2).f [(0, (.int .u8 66)), (1, (.int .u8 74))] H) fun t8 H1 =>
opW (keepSl t8 H1) fun t9 H3 =>
opW ((buildSliceC P 32 1).f [(0, t0)] H3) fun t11 H5 =>
opW (appendWith 1 1 t9 t11 H5) fun t12 H7 =>
wCall P n_code_Fixed [t12, t1, (.int .i64 8)] H7 fun t15 H9 =>
opW (lenSl t2 H9) fun t17 H11 =>
opW (cvInt .u64 t17 H11) fun t18 H13 =>
wCall P n_code_Fixed [t15, t18, (.int .i64 2)] H13 fun t19 H15 =>
opW ((buildSliceC P 24 1).f [(0, t2)] H15) fun t21 H17 =>
wCall P n_code_Raw [t19, t21] H17 fun t22 H19 =>
opW ((buildSliceC P 24 1).f [(0, t22)] H19) fun t25 H21 =>
wCall P n_crc_Sum [t25] H21 fun t26 H23 =>
opW (cvInt .u64 t26 H23) fun t27 H25 =>
wCall P n_code_Fixed [t22, t27, (.int .i64 4)] H25 fun t28 H27 =>
K t28 H27
theorem frame_sealed_eq (t0 t1 t2 : Value) (H : Heap) (K : Value → Heap → Prop) : vcF P n_frame_sealed [t0, t1, t2] H K = frame_sealed t0 t1 t2 H K := by kernel_rfl
theorem frame_sealed_ok {t0 t1 t2 : Value} {H : Heap} {K : Value → Heap → Prop} (h : frame_sealed t0 t1 t2 H K) : wCall P n_frame_sealed [t0, t1, t2] H K := wCall_of_vcF rfl ((frame_sealed_eq t0 t1 t2 H K).mpr h)

/-! (*bootjack/part.Map).Program -/
def part_Map_Program (t0 t1 t2 t3 : Value) (H : Heap) (K : Value → Heap → Prop) : Prop :=
wNew (cellsL t3) H fun t7 H1 =>
wCall P n_part_Map_place [t0, t1, t2] H1 fun t15 H3 =>
opP (extA 0 t15) fun t16 =>
opP (extA 1 t15) fun t17 =>
opP ((binC P .neq 30 true).f t17 (.int .i64 0)) fun t19 =>
wIf t19 (
K t17 H3) (
opP ((buildC P 39).f [(0, (.int .i64 2)), (1, t1), (2, t2)]) fun t24 =>
opP (nilCheckA t0) fun t26 =>
opP (offPtr 0 t26) fun t27 =>
opW (loadOne t27 H3) fun t28 H11 =>
opW (loadAgg 64 t7 H11) fun t30 H13 =>
wCall P n_flash_Device_Program [t28, t16, t30] H13 fun t31 H15 =>
wCall P n_part_Map_note [t0, t24, t31] H15 fun t32 H17 =>
K t32 H17)
theorem part_Map_Program_eq (t0 t1 t2 t3 : Value) (H : Heap) (K : Value → Heap → Prop) : vcF P n_part_Map_Program [t0, t1, t2, t3] H K = part_Map_Program t0 t1 t2 t3 H K := by kernel_rfl
theorem part_Map_Program_ok {t0 t1 t2 t3 : Value} {H : Heap} {K : Value → Heap → Prop} (h : part_Map_Program t0 t1 t2 t3 H K) : wCall P n_part_Map_Program [t0, t1, t2, t3] H K := wCall_of_vcF rfl ((part_Map_Program_eq t0 t1 t2 t3 H K).mpr h)

/-! (*bootjack/part.Map).has -/
def part_Map_has (t0 t1 : Value) (H : Heap) (K : Value → Heap → Prop) : Prop :=
opP ((binC P .geq 3 true).f t1 (.int .i64 0)) fun t6 =>
wIf t6 (
opP (nilCheckA t0) fun t10 =>
opP (offPtr 1 t10) fun t11 =>
opW (loadOne t11 H) fun t12 H4 =>
opW (lenSl t12 H4) fun t13 H6 =>
opP ((binC P .lss 3 false).f t1 t13) fun t14 =>
opP (pickA t6 t14 (.bool false)) fun t15 =>
K t15 H6) (
opP (pickA t6 undef (.bool false)) fun t15_1 =>
K t15_1 H)
theorem part_Map_has_eq (t0 t1 : Value) (H : Heap) (K : Value → Heap → Prop) : vcF P n_part_Map_has [t0, t1] H K = part_Map_has t0 t1 H K := by kernel_rfl
theorem part_Map_has_ok {t0 t1 : Value} {H : Heap} {K : Value → Heap → Prop} (h : part_Map_has t0 t1 H K) : wCall P n_part_Map_has [t0, t1] H K := wCall_of_vcF rfl ((part_Map_has_eq t0 t1 H K).mpr h)

/-! (*bootjack/part.Map).Read -/
def part_Map_Read (t0 t1 t2 : Value) (H : Heap) (K : Value → Heap → Prop) : Prop :=
wNew (zc P 75) H fun t6 H1 =>
wCall P n_part_Map_place [t0, t1, t2] H1 fun t14 H3 =>
opP (extA 0 t14) fun t15 =>
opP (extA 1 t14) fun t16 =>
opP ((binC P .neq 30 true).f t16 (.int .i64 0)) fun t18 =>
wIf t18 (
opP ((buildC P 75).f []) fun t19 =>
opW (storeTo 64 t6 t19 H3) fun u H9 =>
opW (loadAgg 64 t6 H9) fun r _ =>
K (.tuple [r, t16].toArray) H9) (
opP (nilCheckA t0) fun t22 =>
opP (offPtr 0 t22) fun t23 =>
opW (loadOne t23 H3) fun t24 H14 =>
wCall P n_flash_Device_Read [t24, t15] H14 fun t26 H16 =>
opP (extA 0 t26) fun t27 =>
opP (extA 1 t26) fun t28 =>
opW (storeTo 64 t6 t27 H16) fun u_1 H20 =>
opW (loadAgg 64 t6 H20) fun r_1 _ =>
K (.tuple [r_1, t28].toArray) H20)
theorem part_Map_Read_eq (t0 t1 t2 : Value) (H : Heap) (K : Value → Heap → Prop) : vcF P n_part_Map_Read [t0, t1, t2] H K = part_Map_Read t0 t1 t2 H K := by kernel_rfl
theorem part_Map_Read_ok {t0 t1 t2 : Value} {H : Heap} {K : Value → Heap → Prop} (h : part_Map_Read t0 t1 t2 H K) : wCall P n_part_Map_Read [t0, t1, t2] H K := wCall_of_vcF rfl ((part_Map_Read_eq t0 t1 t2 H K).mpr h)

/-! (*bootjack/part.Map).Erase -/
def part_Map_Erase (t0 t1 t2 : Value) (H : Heap) (K : Value → Heap → Prop) : Prop :=
wCall P n_part_Map_place [t0, t1, t2] H fun t13 H1 =>
opP (extA 0 t13) fun t14 =>
opP (extA 1 t13) fun t15 =>
opP ((binC P .neq 30 true).f t15 (.int .i64 0)) fun t17 =>
wIf t17 (
K t15 H1) (
opP ((buildC P 39).f [(0, (.int .i64 1)), (1, t1), (2, t2)]) fun t22 =>
opP (nilCheckA t0) fun t24 =>
opP (offPtr 0 t24) fun t25 =>
opW (loadOne t25 H1) fun t26 H9 =>
wCall P n_flash_Device_Erase [t26, t14] H9 fun t28 H11 =>
wCall P n_part_Map_note [t0, t22, t28] H11 fun t29 H13 =>
K t29 H13)
theorem part_Map_Erase_eq (t0 t1 t2 : Value) (H : Heap) (K : Value → Heap → Prop) : vcF P n_part_Map_Erase [t0, t1, t2] H K = part_Map_Erase t0 t1 t2 H K := by kernel_rfl
theorem part_Map_Erase_ok {t0 t1 t2 : Value} {H : Heap} {K : Value → Heap → Prop} (h : part_Map_Erase t0 t1 t2 H K) : wCall P n_part_Map_Erase [t0, t1, t2] H K := wCall_of_vcF rfl ((part_Map_Erase_eq t0 t1 t2 H K).mpr h)

/-! (*bootjack/flash.Device).Sync -/
noncomputable abbrev flash_Device_Sync_P0 : Code := loopAt P n_flash_Device_Sync 0
/-- loop 0: goes on from the slots [0, 2, 17, 18, 19]; leaves [0, 2] -/
def flash_Device_Sync_L0 (l : List Value) (H : Heap) (N : List Value → Heap → Prop) (Qx : Nat → List Value → Heap → Prop) (Qr : List Value → Heap → Prop) : Prop :=
opP ((binC P .lss 3 false).f (nth l 4) (nth l 3)) fun t20 =>
wIf t20 (
opP (idxSl 65 (nth l 2) (nth l 4)) fun t21 =>
opW (loadAgg 65 t21 H) fun t22 H3 =>
wNew (zc P 77) H3 fun t4 H5 =>
opW (storeTo 65 t4 t22 H5) fun u H7 =>
opP (nilCheckA (nth l 0)) fun t24 =>
opP (offPtr 0 t24) fun t25 =>
opW (loadOne t25 H7) fun t26 H11 =>
opP (offPtr 0 t4) fun t27 =>
opW (loadOne t27 H11) fun t28 H14 =>
opP (offPtr 1 t4) fun t29 =>
opW (loadAgg 64 t29 H14) fun t30 H17 =>
opP (idxSl 129 t26 t28) fun t31 =>
opP (offPtr 0 t31) fun t32 =>
opW (storeTo 64 t32 t30 H17) fun u_1 H21 =>
opP ((binC P .add 3 true).f (nth l 4) (.int .i64 1)) fun t33 =>
N [(nth l 0), (nth l 1), (nth l 2), (nth l 3), t33] H21) (
Qx 0 [(nth l 0), (nth l 1)] H)
theorem flash_Device_Sync_L0_eq (l : List Value) (H : Heap) (N : List Value → Heap → Prop) (Qx : Nat → List Value → Heap → Prop) (Qr : List Value → Heap → Prop) : vcC P true 37 flash_Device_Sync_P0 (live flash_Device_Sync_P0 0 5) 5 (envOf (bits 37 (live flash_Device_Sync_P0 0 5)) l) H (loopQ 37 flash_Device_Sync_P0 5 N Qx Qr) = flash_Device_Sync_L0 l H N Qx Qr := by kernel_rfl
theorem flash_Device_Sync_L0_ind (I : Nat → List Value → Heap → Prop) (Qx : Nat → List Value → Heap → Prop) (Qr : List Value → Heap → Prop) (hs : ∀ k l H, I k l H → flash_Device_Sync_L0 l H (fun l H => ∃ k', k' < k ∧ I k' l H) Qx Qr) (k : Nat) (l : List Value) (H : Heap) (h : I k l H) : wLoop P true 37 flash_Device_Sync_P0 5 l H Qx Qr :=
  loop_ind (by kernel_rfl) I (fun k l H h => (flash_Device_Sync_L0_eq l H _ Qx Qr).mpr (hs k l H h)) k l H h
def flash_Device_Sync (t0 : Value) (H : Heap) (K : Value → Heap → Prop) : Prop :=
wJoin (fun J =>
opP (nilCheckA t0) fun t6 =>
opP (offPtr 4 t6) fun t7 =>
opW (loadOne t7 H) fun t8 H4 =>
wIf t8 (
opP (pickA t8 (.bool true) undef) fun t13 =>
wIf t13 (
K (.int .i64 62) H4) (
J [t0, (.int .i64 0)] H4)) (
wCall P n_flash_Device_step [t0] H4 fun t11 H7 =>
opP (unA .not t11) fun t12 =>
opP (pickA t8 (.bool true) t12) fun t13_1 =>
wIf t13_1 (
K (.int .i64 62) H7) (
J [t0, (.int .i64 0)] H7))) (fun l H11 =>
opP (nilCheckA (nth l 0)) fun t15 =>
opP (offPtr 1 t15) fun t16 =>
opW (loadOne t16 H11) fun t17 H15 =>
opW (lenSl t17 H15) fun t18 H17 =>
wLoop P true 37 flash_Device_Sync_P0 5 [(nth l 0), (nth l 1), t17, t18, (.int .i64 0)] H17 (fun id l_1 H19 =>
cond (Nat.beq id 0) (
opP (nilCheckA (nth l_1 0)) fun t35 =>
opP (offPtr 1 t35) fun t36 =>
opW (storeTo 1 t36 (.slice none 0 0) H19) fun u H23 =>
K (.int .i64 0) H23) (
False)) (fun l_1 H19 =>
K (nth l_1 1) H19))
theorem flash_Device_Sync_eq (t0 : Value) (H : Heap) (K : Value → Heap → Prop) : vcF P n_flash_Device_Sync [t0] H K = flash_Device_Sync t0 H K := by kernel_rfl
theorem flash_Device_Sync_ok {t0 : Value} {H : Heap} {K : Value → Heap → Prop} (h : flash_Device_Sync t0 H K) : wCall P n_flash_Device_Sync [t0] H K := wCall_of_vcF rfl ((flash_Device_Sync_eq t0 H K).mpr h)

/-! bootjack/code.New -/
def code_New (t0 : Value) (H : Heap) (K : Value → Heap → Prop) : Prop :=
opP ((buildC P 113).f [(0, t0)]) fun t4 =>
wNew (cellsL t4) H fun t5 H2 =>
K t5 H2
theorem code_New_eq (t0 : Value) (H : Heap) (K : Value → Heap → Prop) : vcF P n_code_New [t0] H K = code_New t0 H K := by kernel_rfl
theorem code_New_ok {t0 : Value} {H : Heap} {K : Value → Heap → Prop} (h : code_New t0 H K) : wCall P n_code_New [t0] H K := wCall_of_vcF rfl ((code_New_eq t0 H K).mpr h)

/-! (*bootjack/code.Reader).Raw -/
def code_Reader_Raw (t0 t1 : Value) (H : Heap) (K : Value → Heap → Prop) : Prop :=
wCall P n_code_Reader_take [t0, t1] H fun t7 H1 =>
wCall P n_slices_Clone_byte_byte [t7] H1 fun t8 H3 =>
K t8 H3
theorem code_Reader_Raw_eq (t0 t1 : Value) (H : Heap) (K : Value → Heap → Prop) : vcF P n_code_Reader_Raw [t0, t1] H K = code_Reader_Raw t0 t1 H K := by kernel_rfl
theorem code_Reader_Raw_ok {t0 t1 : Value} {H : Heap} {K : Value → Heap → Prop} (h : code_Reader_Raw t0 t1 H K) : wCall P n_code_Reader_Raw [t0, t1] H K := wCall_of_vcF rfl ((code_Reader_Raw_eq t0 t1 H K).mpr h)

/-! (*bootjack/code.Reader).Fixed -/
noncomputable abbrev code_Reader_Fixed_RP0 : List Tmp × Code × Code := rangeAt P n_code_Reader_Fixed 0
/-- range 0: of the slots [5, 14] -/
def code_Reader_Fixed_R0 (vals args : List Value) (l : Nat) (H : Heap) (K : Value → Heap → Prop) : Prop :=
wBegin l H fun H0 =>
opW (loadOne (nth vals 0) H0) fun t15 H2 =>
opP ((binC P .shl 36 true).f t15 (.int .u64 8)) fun t16 =>
opW (cvInt .u64 (nth args 1) H2) fun t18 H5 =>
opP ((binC P .or 36 false).f t16 t18) fun t19 =>
opW (storeTo 1 (nth vals 0) t19 H5) fun u H8 =>
wEnd l .normal H8 K
theorem code_Reader_Fixed_R0_eq (vals args : List Value) (l : Nat) (H : Heap) (K : Value → Heap → Prop) : vcRound P 21 code_Reader_Fixed_RP0.1 code_Reader_Fixed_RP0.2.1 code_Reader_Fixed_RP0.2.2 vals args l H K = code_Reader_Fixed_R0 vals args l H K := by kernel_rfl
def code_Reader_Fixed (t0 t1 : Value) (H : Heap) (K : Value → Heap → Prop) : Prop :=
wNew (zc P 36) H fun t5 H1 =>
opW (storeTo 1 t5 (.int .u64 0) H1) fun u H3 =>
wCall P n_code_within [t1] H3 fun t10 H5 =>
wCall P n_code_Reader_take [t0, t10] H5 fun t11 H7 =>
wCall P n_slices_Backward_byte_byte [t11] H7 fun t12 H9 =>
wRange P 21 code_Reader_Fixed_RP0.1 code_Reader_Fixed_RP0.2.1 code_Reader_Fixed_RP0.2.2 [t5, undef] t12 H9 (fun H10 =>
opW (loadOne t5 H10) fun t20 H12 =>
K t20 H12) (fun id H10 =>
cond (Nat.beq id 0) (
opW (loadOne t5 H10) fun t20_1 H14 =>
K t20_1 H14) (
False)) (fun H10 =>
K (.int .u64 0) H10)
theorem code_Reader_Fixed_eq (t0 t1 : Value) (H : Heap) (K : Value → Heap → Prop) : vcF P n_code_Reader_Fixed [t0, t1] H K = code_Reader_Fixed t0 t1 H K := by kernel_rfl
theorem code_Reader_Fixed_ok {t0 t1 : Value} {H : Heap} {K : Value → Heap → Prop} (h : code_Reader_Fixed t0 t1 H K) : wCall P n_code_Reader_Fixed [t0, t1] H K := wCall_of_vcF rfl ((code_Reader_Fixed_eq t0 t1 H K).mpr h)

/-! bootjack/frame.plain -/
noncomputable abbrev frame_plain_P0 : Code := loopAt P n_frame_plain 0
/-- loop 0: goes on from the slots [2, 3, 6, 7, 8]; leaves [2, 3] -/
def frame_plain_L0 (l : List Value) (H : Heap) (N : List Value → Heap → Prop) (Qx : Nat → List Value → Heap → Prop) (Qr : List Value → Heap → Prop) : Prop :=
opP ((binC P .lss 3 false).f (nth l 4) (nth l 3)) fun t9 =>
wIf t9 (
opP (idxSl 64 (nth l 2) (nth l 4)) fun t10 =>
opW (loadAgg 64 t10 H) fun t11 H3 =>
wNew (zc P 75) H3 fun t5 H5 =>
opW (storeTo 64 t5 t11 H5) fun u H7 =>
opP (sliceArr 64 1 t5 none (some (.int .i64 63)) none H7) fun t13 =>
opW (appendWith 1 1 (nth l 1) t13 H7) fun t14 H10 =>
opP ((binC P .add 3 true).f (nth l 4) (.int .i64 1)) fun t15 =>
N [(nth l 0), t14, (nth l 2), (nth l 3), t15] H10) (
Qx 0 [(nth l 0), (nth l 1)] H)
theorem frame_plain_L0_eq (l : List Value) (H : Heap) (N : List Value → Heap → Prop) (Qx : Nat → List Value → Heap → Prop) (Qr : List Value → Heap → Prop) : vcC P true 17 frame_plain_P0 (live frame_plain_P0 0 12) 12 (envOf (bits 17 (live frame_plain_P0 0 12)) l) H (loopQ 17 frame_plain_P0 12 N Qx Qr) = frame_plain_L0 l H N Qx Qr := by kernel_rfl
theorem frame_plain_L0_ind (I : Nat → List Value → Heap → Prop) (Qx : Nat → List Value → Heap → Prop) (Qr : List Value → Heap → Prop) (hs : ∀ k l H, I k l H → frame_plain_L0 l H (fun l H => ∃ k', k' < k ∧ I k' l H) Qx Qr) (k : Nat) (l : List Value) (H : Heap) (h : I k l H) : wLoop P true 17 frame_plain_P0 12 l H Qx Qr :=
  loop_ind (by kernel_rfl) I (fun k l H h => (frame_plain_L0_eq l H _ Qx Qr).mpr (hs k l H h)) k l H h
def frame_plain (t0 : Value) (H : Heap) (K : Value → Heap → Prop) : Prop :=
opW (lenSl t0 H) fun t7 H1 =>
wLoop P true 17 frame_plain_P0 12 [(.slice none 0 0), (.slice none 0 0), t0, t7, (.int .i64 0)] H1 (fun id l H3 =>
cond (Nat.beq id 0) (
K (nth l 1) H3) (
False)) (fun l H3 =>
K (nth l 0) H3)
theorem frame_plain_eq (t0 : Value) (H : Heap) (K : Value → Heap → Prop) : vcF P n_frame_plain [t0] H K = frame_plain t0 H K := by kernel_rfl
theorem frame_plain_ok {t0 : Value} {H : Heap} {K : Value → Heap → Prop} (h : frame_plain t0 H K) : wCall P n_frame_plain [t0] H K := wCall_of_vcF rfl ((frame_plain_eq t0 H K).mpr h)

/-! slices.Equal[[]bootjack/api.Sector,bootjack/api.Sector] -/
noncomputable abbrev slices_Equal_api_Sector_api_Sector_P0 : Code := loopAt P n_slices_Equal_api_Sector_api_Sector 0
/-- loop 0: goes on from the slots [0, 1, 4, 12, 13]; leaves [4] -/
def slices_Equal_api_Sector_api_Sector_L0 (l : List Value) (H : Heap) (N : List Value → Heap → Prop) (Qx : Nat → List Value → Heap → Prop) (Qr : List Value → Heap → Prop) : Prop :=
opP ((binC P .lss 3 false).f (nth l 4) (nth l 3)) fun t14 =>
wIf t14 (
opP (idxSl 64 (nth l 0) (nth l 4)) fun t18 =>
opW (loadAgg 64 t18 H) fun t19 H3 =>
opP (idxSl 64 (nth l 1) (nth l 4)) fun t22 =>
opW (loadAgg 64 t22 H3) fun t23 H6 =>
opP ((binC P .neq 75 false).f t19 t23) fun t24 =>
wIf t24 (
Qr [(.bool false)] H6) (
opP ((binC P .add 3 true).f (nth l 4) (.int .i64 1)) fun t25 =>
N [(nth l 0), (nth l 1), (nth l 2), (nth l 3), t25] H6)) (
Qx 0 [(nth l 2)] H)
theorem slices_Equal_api_Sector_api_Sector_L0_eq (l : List Value) (H : Heap) (N : List Value → Heap → Prop) (Qx : Nat → List Value → Heap → Prop) (Qr : List Value → Heap → Prop) : vcC P true 26 slices_Equal_api_Sector_api_Sector_P0 (live slices_Equal_api_Sector_api_Sector_P0 0 16) 16 (envOf (bits 26 (live slices_Equal_api_Sector_api_Sector_P0 0 16)) l) H (loopQ 26 slices_Equal_api_Sector_api_Sector_P0 16 N Qx Qr) = slices_Equal_api_Sector_api_Sector_L0 l H N Qx Qr := by kernel_rfl
theorem slices_Equal_api_Sector_api_Sector_L0_ind (I : Nat → List Value → Heap → Prop) (Qx : Nat → List Value → Heap → Prop) (Qr : List Value → Heap → Prop) (hs : ∀ k l H, I k l H → slices_Equal_api_Sector_api_Sector_L0 l H (fun l H => ∃ k', k' < k ∧ I k' l H) Qx Qr) (k : Nat) (l : List Value) (H : Heap) (h : I k l H) : wLoop P true 26 slices_Equal_api_Sector_api_Sector_P0 16 l H Qx Qr :=
  loop_ind (by kernel_rfl) I (fun k l H h => (slices_Equal_api_Sector_api_Sector_L0_eq l H _ Qx Qr).mpr (hs k l H h)) k l H h
def slices_Equal_api_Sector_api_Sector (t0 t1 : Value) (H : Heap) (K : Value → Heap → Prop) : Prop :=
opW (lenSl t0 H) fun t7 H1 =>
opW (lenSl t1 H1) fun t9 H3 =>
opP ((binC P .neq 3 false).f t7 t9) fun t10 =>
wIf t10 (
K (.bool false) H3) (
opW (lenSl t0 H3) fun t12 H6 =>
wLoop P true 26 slices_Equal_api_Sector_api_Sector_P0 16 [t0, t1, (.bool false), t12, (.int .i64 0)] H6 (fun id l H8 =>
cond (Nat.beq id 0) (
K (.bool true) H8) (
False)) (fun l H8 =>
K (nth l 0) H8))
theorem slices_Equal_api_Sector_api_Sector_eq (t0 t1 : Value) (H : Heap) (K : Value → Heap → Prop) : vcF P n_slices_Equal_api_Sector_api_Sector [t0, t1] H K = slices_Equal_api_Sector_api_Sector t0 t1 H K := by kernel_rfl
theorem slices_Equal_api_Sector_api_Sector_ok {t0 t1 : Value} {H : Heap} {K : Value → Heap → Prop} (h : slices_Equal_api_Sector_api_Sector t0 t1 H K) : wCall P n_slices_Equal_api_Sector_api_Sector [t0, t1] H K := wCall_of_vcF rfl ((slices_Equal_api_Sector_api_Sector_eq t0 t1 H K).mpr h)

/-! slices.Clone[[]byte,byte] -/
def slices_Clone_byte_byte (t0 : Value) (H : Heap) (K : Value → Heap → Prop) : Prop :=
opP ((binC P .eql 32 true).f t0 (.slice none 0 0)) fun t4 =>
wIf t4 (
K (.slice none 0 0) H) (
opW ((buildSliceC P 32 0).f [] H) fun t5 H2 =>
opW (appendWith 1 1 t5 t0 H2) fun t7 H4 =>
K t7 H4)
theorem slices_Clone_byte_byte_eq (t0 : Value) (H : Heap) (K : Value → Heap → Prop) : vcF P n_slices_Clone_byte_byte [t0] H K = slices_Clone_byte_byte t0 H K := by kernel_rfl
theorem slices_Clone_byte_byte_ok {t0 : Value} {H : Heap} {K : Value → Heap → Prop} (h : slices_Clone_byte_byte t0 H K) : wCall P n_slices_Clone_byte_byte [t0] H K := wCall_of_vcF rfl ((slices_Clone_byte_byte_eq t0 H K).mpr h)

/-! slices.Chunk[[]byte,byte]$1 -/
noncomputable abbrev slices_Chunk_byte_byte_1_P0 : Code := loopAt P n_slices_Chunk_byte_byte_1 0
/-- loop 0: goes on from the slots [0, 1, 2, 4]; leaves [] -/
def slices_Chunk_byte_byte_1_L0 (l : List Value) (H : Heap) (N : List Value → Heap → Prop) (Qx : Nat → List Value → Heap → Prop) (Qr : List Value → Heap → Prop) : Prop :=
opW (loadOne (nth l 1) H) fun t7 H1 =>
opW (lenSl t7 H1) fun t8 H3 =>
opP ((binC P .lss 3 false).f (nth l 3) t8) fun t9 =>
wIf t9 (
opW (loadOne (nth l 2) H3) fun t13 H6 =>
opW (loadOne (nth l 1) H6) fun t14 H8 =>
opP (sliceSl 1 t14 (some (nth l 3)) none none) fun t16 =>
opW (lenSl t16 H8) fun t17 H11 =>
opW (withH H11 (minA [t13, t17])) fun t18 H13 =>
opW (loadOne (nth l 1) H13) fun t20 H15 =>
opP ((binC P .add 3 false).f (nth l 3) t18) fun t24 =>
opP ((binC P .add 3 false).f (nth l 3) t18) fun t27 =>
opP (sliceSl 1 t20 (some (nth l 3)) (some t24) (some t27)) fun t28 =>
wTgt P (callee1 (nth l 0) [t28]) H15 fun t29 H20 =>
opP (unA .not t29) fun t30 =>
wIf t30 (
Qr [] H20) (
opW (loadOne (nth l 2) H20) fun t11 H23 =>
opP ((binC P .add 3 false).f (nth l 3) t11) fun t12 =>
N [(nth l 0), (nth l 1), (nth l 2), t12] H23)) (
Qx 0 [] H3)
theorem slices_Chunk_byte_byte_1_L0_eq (l : List Value) (H : Heap) (N : List Value → Heap → Prop) (Qx : Nat → List Value → Heap → Prop) (Qr : List Value → Heap → Prop) : vcC P true 31 slices_Chunk_byte_byte_1_P0 (live slices_Chunk_byte_byte_1_P0 0 0) 0 (envOf (bits 31 (live slices_Chunk_byte_byte_1_P0 0 0)) l) H (loopQ 31 slices_Chunk_byte_byte_1_P0 0 N Qx Qr) = slices_Chunk_byte_byte_1_L0 l H N Qx Qr := by kernel_rfl
theorem slices_Chunk_byte_byte_1_L0_ind (I : Nat → List Value → Heap → Prop) (Qx : Nat → List Value → Heap → Prop) (Qr : List Value → Heap → Prop) (hs : ∀ k l H, I k l H → slices_Chunk_byte_byte_1_L0 l H (fun l H => ∃ k', k' < k ∧ I k' l H) Qx Qr) (k : Nat) (l : List Value) (H : Heap) (h : I k l H) : wLoop P true 31 slices_Chunk_byte_byte_1_P0 0 l H Qx Qr :=
  loop_ind (by kernel_rfl) I (fun k l H h => (slices_Chunk_byte_byte_1_L0_eq l H _ Qx Qr).mpr (hs k l H h)) k l H h
def slices_Chunk_byte_byte_1 (t0 t1 t2 : Value) (H : Heap) (K : Value → Heap → Prop) : Prop :=
wLoop P true 31 slices_Chunk_byte_byte_1_P0 0 [t0, t1, t2, (.int .i64 0)] H (fun id l H1 =>
cond (Nat.beq id 0) (
K (.tuple [].toArray) H1) (
False)) (fun l H1 =>
K (.tuple [].toArray) H1)
theorem slices_Chunk_byte_byte_1_eq (t0 t1 t2 : Value) (H : Heap) (K : Value → Heap → Prop) : vcF P n_slices_Chunk_byte_byte_1 [t0, t1, t2] H K = slices_Chunk_byte_byte_1 t0 t1 t2 H K := by kernel_rfl
theorem slices_Chunk_byte_byte_1_ok {t0 t1 t2 : Value} {H : Heap} {K : Value → Heap → Prop} (h : slices_Chunk_byte_byte_1 t0 t1 t2 H K) : wCall P n_slices_Chunk_byte_byte_1 [t0, t1, t2] H K := wCall_of_vcF rfl ((slices_Chunk_byte_byte_1_eq t0 t1 t2 H K).mpr h)

/-! bootjack/code.Raw -/
def code_Raw (t0 t1 : Value) (H : Heap) (K : Value → Heap → Prop) : Prop :=
wCall P n_slices_Concat_byte_byte [t1] H fun t7 H1 =>
opW ((buildSliceC P 24 2).f [(0, t0), (1, t7)] H1) fun t8 H3 =>
wCall P n_slices_Concat_byte_byte [t8] H3 fun t9 H5 =>
K t9 H5
theorem code_Raw_eq (t0 t1 : Value) (H : Heap) (K : Value → Heap → Prop) : vcF P n_code_Raw [t0, t1] H K = code_Raw t0 t1 H K := by kernel_rfl
theorem code_Raw_ok {t0 t1 : Value} {H : Heap} {K : Value → Heap → Prop} (h : code_Raw t0 t1 H K) : wCall P n_code_Raw [t0, t1] H K := wCall_of_vcF rfl ((code_Raw_eq t0 t1 H K).mpr h)

/-! bootjack/code.Fixed -/
noncomputable abbrev code_Fixed_P0 : Code := loopAt P n_code_Fixed 0
/-- loop 0: goes on from the slots [1, 6, 7, 11, 12]; leaves [6, 7] -/
def code_Fixed_L0 (l : List Value) (H : Heap) (N : List Value → Heap → Prop) (Qx : Nat → List Value → Heap → Prop) (Qr : List Value → Heap → Prop) : Prop :=
opP ((binC P .lss 3 false).f (nth l 4) (nth l 3)) fun t13 =>
wIf t13 (
opW (cvInt .u8 (nth l 0) H) fun t16 H2 =>
opW ((buildSliceC P 32 1).f [(0, t16)] H2) fun t17 H4 =>
opW (appendWith 1 1 (nth l 2) t17 H4) fun t18 H6 =>
opP ((binC P .shr 36 true).f (nth l 0) (.int .u64 8)) fun t20 =>
opP ((binC P .add 3 true).f (nth l 4) (.int .i64 1)) fun t21 =>
N [t20, (nth l 1), t18, (nth l 3), t21] H6) (
Qx 0 [(nth l 1), (nth l 2)] H)
theorem code_Fixed_L0_eq (l : List Value) (H : Heap) (N : List Value → Heap → Prop) (Qx : Nat → List Value → Heap → Prop) (Qr : List Value → Heap → Prop) : vcC P true 23 code_Fixed_P0 (live code_Fixed_P0 0 192) 192 (envOf (bits 23 (live code_Fixed_P0 0 192)) l) H (loopQ 23 code_Fixed_P0 192 N Qx Qr) = code_Fixed_L0 l H N Qx Qr := by kernel_rfl
theorem code_Fixed_L0_ind (I : Nat → List Value → Heap → Prop) (Qx : Nat → List Value → Heap → Prop) (Qr : List Value → Heap → Prop) (hs : ∀ k l H, I k l H → code_Fixed_L0 l H (fun l H => ∃ k', k' < k ∧ I k' l H) Qx Qr) (k : Nat) (l : List Value) (H : Heap) (h : I k l H) : wLoop P true 23 code_Fixed_P0 192 l H Qx Qr :=
  loop_ind (by kernel_rfl) I (fun k l H h => (code_Fixed_L0_eq l H _ Qx Qr).mpr (hs k l H h)) k l H h
def code_Fixed (t0 t1 t2 : Value) (H : Heap) (K : Value → Heap → Prop) : Prop :=
wCall P n_slices_Clone_byte_byte [t0] H fun t9 H1 =>
wCall P n_code_within [t2] H1 fun t11 H3 =>
wLoop P true 23 code_Fixed_P0 192 [t1, (.slice none 0 0), t9, t11, (.int .i64 0)] H3 (fun id l H5 =>
cond (Nat.beq id 0) (
K (nth l 1) H5) (
False)) (fun l H5 =>
K (nth l 0) H5)
theorem code_Fixed_eq (t0 t1 t2 : Value) (H : Heap) (K : Value → Heap → Prop) : vcF P n_code_Fixed [t0, t1, t2] H K = code_Fixed t0 t1 t2 H K := by kernel_rfl
theorem code_Fixed_ok {t0 t1 t2 : Value} {H : Heap} {K : Value → Heap → Prop} (h : code_Fixed t0 t1 t2 H K) : wCall P n_code_Fixed [t0, t1, t2] H K := wCall_of_vcF rfl ((code_Fixed_eq t0 t1 t2 H K).mpr h)

/-! bootjack/crc.Sum -/
noncomputable abbrev crc_Sum_P0 : Code := loopAt P n_crc_Sum 0
/-- loop 0: goes on from the slots [2, 3, 6, 7, 8]; leaves [2, 3] -/
def crc_Sum_L0 (l : List Value) (H : Heap) (N : List Value → Heap → Prop) (Qx : Nat → List Value → Heap → Prop) (Qr : List Value → Heap → Prop) : Prop :=
opP ((binC P .lss 3 false).f (nth l 4) (nth l 3)) fun t9 =>
wIf t9 (
opP (idxSl 1 (nth l 2) (nth l 4)) fun t10 =>
opW (loadOne t10 H) fun t11 H3 =>
wCall P n_crc_More [(nth l 1), t11] H3 fun t14 H5 =>
opP ((binC P .add 3 true).f (nth l 4) (.int .i64 1)) fun t15 =>
N [(nth l 0), t14, (nth l 2), (nth l 3), t15] H5) (
Qx 0 [(nth l 0), (nth l 1)] H)
theorem crc_Sum_L0_eq (l : List Value) (H : Heap) (N : List Value → Heap → Prop) (Qx : Nat → List Value → Heap → Prop) (Qr : List Value → Heap → Prop) : vcC P true 17 crc_Sum_P0 (live crc_Sum_P0 0 12) 12 (envOf (bits 17 (live crc_Sum_P0 0 12)) l) H (loopQ 17 crc_Sum_P0 12 N Qx Qr) = crc_Sum_L0 l H N Qx Qr := by kernel_rfl
theorem crc_Sum_L0_ind (I : Nat → List Value → Heap → Prop) (Qx : Nat → List Value → Heap → Prop) (Qr : List Value → Heap → Prop) (hs : ∀ k l H, I k l H → crc_Sum_L0 l H (fun l H => ∃ k', k' < k ∧ I k' l H) Qx Qr) (k : Nat) (l : List Value) (H : Heap) (h : I k l H) : wLoop P true 17 crc_Sum_P0 12 l H Qx Qr :=
  loop_ind (by kernel_rfl) I (fun k l H h => (crc_Sum_L0_eq l H _ Qx Qr).mpr (hs k l H h)) k l H h
def crc_Sum (t0 : Value) (H : Heap) (K : Value → Heap → Prop) : Prop :=
opW (lenSl t0 H) fun t7 H1 =>
wLoop P true 17 crc_Sum_P0 12 [(.int .u32 0), (.int .u32 0), t0, t7, (.int .i64 0)] H1 (fun id l H3 =>
cond (Nat.beq id 0) (
K (nth l 1) H3) (
False)) (fun l H3 =>
K (nth l 0) H3)
theorem crc_Sum_eq (t0 : Value) (H : Heap) (K : Value → Heap → Prop) : vcF P n_crc_Sum [t0] H K = crc_Sum t0 H K := by kernel_rfl
theorem crc_Sum_ok {t0 : Value} {H : Heap} {K : Value → Heap → Prop} (h : crc_Sum t0 H K) : wCall P n_crc_Sum [t0] H K := wCall_of_vcF rfl ((crc_Sum_eq t0 H K).mpr h)

/-! (*bootjack/part.Map).place -/
def part_Map_place (t0 t1 t2 : Value) (H : Heap) (K : Value → Heap → Prop) : Prop :=
wCall P n_part_Map_has [t0, t1] H fun t11 H1 =>
opP (unA .not t11) fun t12 =>
wIf t12 (
K (.tuple [(.int .i64 0), (.int .i64 71)].toArray) H1) (
wJoin (fun J =>
opP ((binC P .lss 3 true).f t2 (.int .i64 0)) fun t15 =>
wIf t15 (
opP (pickA t15 (.bool true) undef) fun t27 =>
J [t0, t1, t2, t27] H1) (
opP (nilCheckA t0) fun t19 =>
opP (offPtr 1 t19) fun t20 =>
opW (loadOne t20 H1) fun t21 H9 =>
opP (idxSl 2 t21 t1) fun t23 =>
opP (offPtr 1 t23) fun t24 =>
opW (loadOne t24 H9) fun t25 H13 =>
opP ((binC P .geq 3 false).f t2 t25) fun t26 =>
opP (pickA t15 (.bool true) t26) fun t27_1 =>
J [t0, t1, t2, t27_1] H13)) (fun l H17 =>
wIf (nth l 3) (
K (.tuple [(.int .i64 0), (.int .i64 61)].toArray) H17) (
opP (nilCheckA (nth l 0)) fun t29 =>
opP (offPtr 1 t29) fun t30 =>
opW (loadOne t30 H17) fun t31 H21 =>
opP (idxSl 2 t31 (nth l 1)) fun t33 =>
opP (offPtr 0 t33) fun t34 =>
opW (loadOne t34 H21) fun t35 H25 =>
opP ((binC P .add 3 false).f t35 (nth l 2)) fun t37 =>
K (.tuple [t37, (.int .i64 0)].toArray) H25)))
theorem part_Map_place_eq (t0 t1 t2 : Value) (H : Heap) (K : Value → Heap → Prop) : vcF P n_part_Map_place [t0, t1, t2] H K = part_Map_place t0 t1 t2 H K := by kernel_rfl
theorem part_Map_place_ok {t0 t1 t2 : Value} {H : Heap} {K : Value → Heap → Prop} (h : part_Map_place t0 t1 t2 H K) : wCall P n_part_Map_place [t0, t1, t2] H K := wCall_of_vcF rfl ((part_Map_place_eq t0 t1 t2 H K).mpr h)

/-! (*bootjack/part.Map).note -/
def part_Map_note (t0 t1 t2 : Value) (H : Heap) (K : Value → Heap → Prop) : Prop :=
wNew (cellsL t1) H fun t4 H1 =>
opP ((binC P .eql 30 true).f t2 (.int .i64 0)) fun t8 =>
wIf t8 (
opP (nilCheckA t0) fun t10 =>
opP (offPtr 2 t10) fun t11 =>
opW (loadOne t11 H1) fun t12 H6 =>
opP (offPtr 3 t4) fun t13 =>
opW (storeTo 1 t13 t12 H6) fun u H9 =>
opP (nilCheckA t0) fun t16 =>
opP (offPtr 3 t16) fun t17 =>
opW (loadOne t17 H9) fun t18 H13 =>
opW (loadAgg 4 t4 H13) fun t19 H15 =>
opW ((buildSliceC P 34 1).f [(0, t19)] H15) fun t20 H17 =>
opW (appendWith 4 32 t18 t20 H17) fun t21 H19 =>
opP (nilCheckA t0) fun t22 =>
opP (offPtr 3 t22) fun t23 =>
opW (storeTo 1 t23 t21 H19) fun u_1 H23 =>
K t2 H23) (
K t2 H1)
theorem part_Map_note_eq (t0 t1 t2 : Value) (H : Heap) (K : Value → Heap → Prop) : vcF P n_part_Map_note [t0, t1, t2] H K = part_Map_note t0 t1 t2 H K := by kernel_rfl
theorem part_Map_note_ok {t0 t1 t2 : Value} {H : Heap} {K : Value → Heap → Prop} (h : part_Map_note t0 t1 t2 H K) : wCall P n_part_Map_note [t0, t1, t2] H K := wCall_of_vcF rfl ((part_Map_note_eq t0 t1 t2 H K).mpr h)

/-! (*bootjack/flash.Device).Program -/
def flash_Device_Program (t0 t1 t2 : Value) (H : Heap) (K : Value → Heap → Prop) : Prop :=
wNew (cellsL t2) H fun t5 H1 =>
wCall P n_flash_Device_cell [t0, t1] H1 fun t10 H3 =>
opP ((binC P .eql 120 true).f t10 (.pointer none)) fun t13 =>
wIf t13 (
K (.int .i64 61) H3) (
opP (nilCheckA t0) fun t16 =>
opP (offPtr 4 t16) fun t17 =>
opW (loadOne t17 H3) fun t18 H8 =>
wIf t18 (
K (.int .i64 62) H8) (
opP (nilCheckA t10) fun t21 =>
opP (offPtr 64 t21) fun t22 =>
opW (loadAgg 64 t22 H8) fun t23 H12 =>
wCall P n_flash_Blank [] H12 fun t24 H14 =>
cSame (sameB H12 H14) (idsOf [t22]) ∧ (opP ((binC P .neq 75 false).f t23 t24) fun t25 =>
wIf t25 (
K (.int .i64 63) H14) (
wCall P n_flash_Device_step [t0] H14 fun t28 H17 =>
opP (unA .not t28) fun t29 =>
wIf t29 (
K (.int .i64 62) H17) (
opW (loadAgg 64 t5 H17) fun t32 H20 =>
wCall P n_flash_Device_set [t0, t1, t32] H20 fun t33 H22 =>
K (.int .i64 0) H22)))))
theorem flash_Device_Program_eq (t0 t1 t2 : Value) (H : Heap) (K : Value → Heap → Prop) : vcF P n_flash_Device_Program [t0, t1, t2] H K = flash_Device_Program t0 t1 t2 H K := by kernel_rfl
theorem flash_Device_Program_ok {t0 t1 t2 : Value} {H : Heap} {K : Value → Heap → Prop} (h : flash_Device_Program t0 t1 t2 H K) : wCall P n_flash_Device_Program [t0, t1, t2] H K := wCall_of_vcF rfl ((flash_Device_Program_eq t0 t1 t2 H K).mpr h)

/-! (*bootjack/flash.Device).Read -/
def flash_Device_Read (t0 t1 : Value) (H : Heap) (K : Value → Heap → Prop) : Prop :=
wNew (zc P 75) H fun t4 H1 =>
wCall P n_flash_Device_cell [t0, t1] H1 fun t9 H3 =>
opP ((binC P .eql 120 true).f t9 (.pointer none)) fun t11 =>
wIf t11 (
opP ((buildC P 75).f []) fun t12 =>
opW (storeTo 64 t4 t12 H3) fun u H7 =>
opW (loadAgg 64 t4 H7) fun r _ =>
K (.tuple [r, (.int .i64 61)].toArray) H7) (
opP (nilCheckA t9) fun t14 =>
opP (offPtr 64 t14) fun t15 =>
opW (loadAgg 64 t15 H3) fun t16 H12 =>
opW (storeTo 64 t4 t16 H12) fun u_1 H14 =>
opW (loadAgg 64 t4 H14) fun r_1 _ =>
K (.tuple [r_1, (.int .i64 0)].toArray) H14)
theorem flash_Device_Read_eq (t0 t1 : Value) (H : Heap) (K : Value → Heap → Prop) : vcF P n_flash_Device_Read [t0, t1] H K = flash_Device_Read t0 t1 H K := by kernel_rfl
theorem flash_Device_Read_ok {t0 t1 : Value} {H : Heap} {K : Value → Heap → Prop} (h : flash_Device_Read t0 t1 H K) : wCall P n_flash_Device_Read [t0, t1] H K := wCall_of_vcF rfl ((flash_Device_Read_eq t0 t1 H K).mpr h)

/-! (*bootjack/flash.Device).Erase -/
def flash_Device_Erase (t0 t1 : Value) (H : Heap) (K : Value → Heap → Prop) : Prop :=
wCall P n_flash_Device_cell [t0, t1] H fun t8 H1 =>
opP ((binC P .eql 120 true).f t8 (.pointer none)) fun t11 =>
wIf t11 (
K (.int .i64 61) H1) (
opP (nilCheckA t0) fun t14 =>
opP (offPtr 4 t14) fun t15 =>
opW (loadOne t15 H1) fun t16 H6 =>
wIf t16 (
K (.int .i64 62) H6) (
opP (nilCheckA t8) fun t19 =>
opP (offPtr 128 t19) fun t20 =>
opW (loadOne t20 H6) fun t21 H10 =>
opP (nilCheckA t0) fun t23 =>
opP (offPtr 2 t23) fun t24 =>
opW (loadOne t24 H10) fun t25 H14 =>
opP ((binC P .geq 3 false).f t21 t25) fun t26 =>
wIf t26 (
K (.int .i64 64) H14) (
wCall P n_flash_Device_step [t0] H14 fun t29 H17 =>
opP (unA .not t29) fun t30 =>
wIf t30 (
K (.int .i64 62) H17) (
opP (nilCheckA t8) fun t32 =>
opP (offPtr 128 t32) fun t33 =>
opW (loadOne t33 H17) fun t34 H22 =>
opP ((binC P .add 3 true).f t34 (.int .i64 1)) fun t35 =>
opP (nilCheckA t8) fun t36 =>
opP (offPtr 128 t36) fun t37 =>
opW (storeTo 1 t37 t35 H22) fun u H27 =>
wCall P n_flash_Blank [] H27 fun t40 H29 =>
wCall P n_flash_Device_set [t0, t1, t40] H29 fun t41 H31 =>
K (.int .i64 0) H31))))
theorem flash_Device_Erase_eq (t0 t1 : Value) (H : Heap) (K : Value → Heap → Prop) : vcF P n_flash_Device_Erase [t0, t1] H K = flash_Device_Erase t0 t1 H K := by kernel_rfl
theorem flash_Device_Erase_ok {t0 t1 : Value} {H : Heap} {K : Value → Heap → Prop} (h : flash_Device_Erase t0 t1 H K) : wCall P n_flash_Device_Erase [t0, t1] H K := wCall_of_vcF rfl ((flash_Device_Erase_eq t0 t1 H K).mpr h)

/-! (*bootjack/flash.Device).step -/
def flash_Device_step (t0 : Value) (H : Heap) (K : Value → Heap → Prop) : Prop :=
wJoin (fun J =>
opP (nilCheckA t0) fun t5 =>
opP (offPtr 4 t5) fun t6 =>
opW (loadOne t6 H) fun t7 H4 =>
wIf t7 (
opP (pickA t7 (.bool true) undef) fun t14 =>
opP (nilCheckA t0) fun t15 =>
opP (offPtr 4 t15) fun t16 =>
opW (storeTo 1 t16 t14 H4) fun u H9 =>
J [t0] H9) (
opP (nilCheckA t0) fun t10 =>
opP (offPtr 3 t10) fun t11 =>
opW (loadOne t11 H4) fun t12 H13 =>
opP ((binC P .eql 3 true).f t12 (.int .i64 0)) fun t13 =>
opP (pickA t7 (.bool true) t13) fun t14_1 =>
opP (nilCheckA t0) fun t15_1 =>
opP (offPtr 4 t15_1) fun t16_1 =>
opW (storeTo 1 t16_1 t14_1 H13) fun u_1 H19 =>
J [t0] H19)) (fun l H21 =>
wJoin (fun J_1 =>
wJoin (fun J_2 =>
opP (nilCheckA (nth l 0)) fun t18 =>
opP (offPtr 4 t18) fun t19 =>
opW (loadOne t19 H21) fun t20 H27 =>
opP (unA .not t20) fun t21 =>
wIf t21 (
opP (nilCheckA (nth l 0)) fun t24 =>
opP (offPtr 3 t24) fun t25 =>
opW (loadOne t25 H27) fun t26 H32 =>
opP ((binC P .gtr 3 true).f t26 (.int .i64 0)) fun t27 =>
opP (pickA t21 t27 (.bool false)) fun t28 =>
J_2 [(nth l 0), t28] H32) (
opP (pickA t21 undef (.bool false)) fun t28_1 =>
J_2 [(nth l 0), t28_1] H27)) (fun l_1 H37 =>
wIf (nth l_1 1) (
opP (nilCheckA (nth l_1 0)) fun t30 =>
opP (offPtr 3 t30) fun t31 =>
opW (loadOne t31 H37) fun t32 H41 =>
opP ((binC P .sub 3 true).f t32 (.int .i64 1)) fun t33 =>
opP (nilCheckA (nth l_1 0)) fun t34 =>
opP (offPtr 3 t34) fun t35 =>
opW (storeTo 1 t35 t33 H41) fun u_2 H46 =>
J_1 [(nth l_1 0)] H46) (
J_1 [(nth l_1 0)] H37))) (fun l_2 H48 =>
opP (nilCheckA (nth l_2 0)) fun t37 =>
opP (offPtr 4 t37) fun t38 =>
opW (loadOne t38 H48) fun t39 H52 =>
opP (unA .not t39) fun t40 =>
K t40 H52))
theorem flash_Device_step_eq (t0 : Value) (H : Heap) (K : Value → Heap → Prop) : vcF P n_flash_Device_step [t0] H K = flash_Device_step t0 H K := by kernel_rfl
theorem flash_Device_step_ok {t0 : Value} {H : Heap} {K : Value → Heap → Prop} (h : flash_Device_step t0 H K) : wCall P n_flash_Device_step [t0] H K := wCall_of_vcF rfl ((flash_Device_step_eq t0 H K).mpr h)

/-! (*bootjack/code.Reader).take -/
def code_Reader_take (t0 t1 : Value) (H : Heap) (K : Value → Heap → Prop) : Prop :=
opW (withH H (maxA [t1, (.int .i64 0)])) fun t7 H1 =>
wJoin (fun J =>
opP (nilCheckA t0) fun t9 =>
opP (offPtr 1 t9) fun t10 =>
opW (loadOne t10 H1) fun t11 H6 =>
opP ((binC P .neq 30 true).f t11 (.int .i64 0)) fun t12 =>
wIf t12 (
opP (pickA t12 (.bool true) undef) fun t21 =>
J [t0, t7, t21] H6) (
opP (nilCheckA t0) fun t16 =>
opP (offPtr 0 t16) fun t17 =>
opW (loadOne t17 H6) fun t18 H12 =>
opW (lenSl t18 H12) fun t19 H14 =>
opP ((binC P .gtr 3 false).f t7 t19) fun t20 =>
opP (pickA t12 (.bool true) t20) fun t21_1 =>
J [t0, t7, t21_1] H14)) (fun l H18 =>
wIf (nth l 2) (
wCall P n_code_Reader_fail [(nth l 0), (.int .i64 51)] H18 fun t23 H20 =>
K (.slice none 0 0) H20) (
opP (nilCheckA (nth l 0)) fun t25 =>
opP (offPtr 0 t25) fun t26 =>
opW (loadOne t26 H18) fun t27 H24 =>
opP (sliceSl 1 t27 none (some (nth l 1)) none) fun t29 =>
opP (nilCheckA (nth l 0)) fun t32 =>
opP (offPtr 0 t32) fun t33 =>
opW (loadOne t33 H24) fun t34 H29 =>
opP (sliceSl 1 t34 (some (nth l 1)) none none) fun t36 =>
opP (nilCheckA (nth l 0)) fun t37 =>
opP (offPtr 0 t37) fun t38 =>
opW (storeTo 1 t38 t36 H29) fun u H34 =>
K t29 H34))
theorem code_Reader_take_eq (t0 t1 : Value) (H : Heap) (K : Value → Heap → Prop) : vcF P n_code_Reader_take [t0, t1] H K = code_Reader_take t0 t1 H K := by kernel_rfl
theorem code_Reader_take_ok {t0 t1 : Value} {H : Heap} {K : Value → Heap → Prop} (h : code_Reader_take t0 t1 H K) : wCall P n_code_Reader_take [t0, t1] H K := wCall_of_vcF rfl ((code_Reader_take_eq t0 t1 H K).mpr h)

/-! slices.Backward[[]byte,byte] -/
def slices_Backward_byte_byte (t0 : Value) (H : Heap) (K : Value → Heap → Prop) : Prop :=
wNew (cellsL t0) H fun t1 H1 =>
K (.func (.func n_slices_Backward_byte_byte_1) [].toArray [t1].toArray) H1
theorem slices_Backward_byte_byte_eq (t0 : Value) (H : Heap) (K : Value → Heap → Prop) : vcF P n_slices_Backward_byte_byte [t0] H K = slices_Backward_byte_byte t0 H K := by kernel_rfl
theorem slices_Backward_byte_byte_ok {t0 : Value} {H : Heap} {K : Value → Heap → Prop} (h : slices_Backward_byte_byte t0 H K) : wCall P n_slices_Backward_byte_byte [t0] H K := wCall_of_vcF rfl ((slices_Backward_byte_byte_eq t0 H K).mpr h)

/-! bootjack/code.within -/
def code_within (t0 : Value) (H : Heap) (K : Value → Heap → Prop) : Prop :=
opW (withH H (minA [t0, (.int .i64 8)])) fun t4 H1 =>
opW (withH H1 (maxA [(.int .i64 0), t4])) fun t5 H3 =>
K t5 H3
theorem code_within_eq (t0 : Value) (H : Heap) (K : Value → Heap → Prop) : vcF P n_code_within [t0] H K = code_within t0 H K := by kernel_rfl
theorem code_within_ok {t0 : Value} {H : Heap} {K : Value → Heap → Prop} (h : code_within t0 H K) : wCall P n_code_within [t0] H K := wCall_of_vcF rfl ((code_within_eq t0 H K).mpr h)

/-! slices.Concat[[]byte,byte] -/
noncomputable abbrev slices_Concat_byte_byte_P0 : Code := loopAt P n_slices_Concat_byte_byte 0
noncomputable abbrev slices_Concat_byte_byte_P1 : Code := loopAt P n_slices_Concat_byte_byte 1
/-- loop 0: goes on from the slots [0, 2, 3, 9, 10, 11]; leaves [0, 2, 3] -/
def slices_Concat_byte_byte_L0 (l : List Value) (H : Heap) (N : List Value → Heap → Prop) (Qx : Nat → List Value → Heap → Prop) (Qr : List Value → Heap → Prop) : Prop :=
opP ((binC P .lss 3 false).f (nth l 5) (nth l 4)) fun t12 =>
wIf t12 (
opP (idxSl 1 (nth l 3) (nth l 5)) fun t13 =>
opW (loadOne t13 H) fun t14 H3 =>
opW (lenSl t14 H3) fun t17 H5 =>
opP ((binC P .add 3 false).f (nth l 2) t17) fun t18 =>
opP ((binC P .lss 3 true).f t18 (.int .i64 0)) fun t20 =>
wIf t20 (
False) (
opP ((binC P .add 3 true).f (nth l 5) (.int .i64 1)) fun t22 =>
N [(nth l 0), (nth l 1), t18, (nth l 3), (nth l 4), t22] H5)) (
Qx 0 [(nth l 0), (nth l 1), (nth l 2)] H)
theorem slices_Concat_byte_byte_L0_eq (l : List Value) (H : Heap) (N : List Value → Heap → Prop) (Qx : Nat → List Value → Heap → Prop) (Qr : List Value → Heap → Prop) : vcC P true 36 slices_Concat_byte_byte_P0 (live slices_Concat_byte_byte_P0 0 13) 13 (envOf (bits 36 (live slices_Concat_byte_byte_P0 0 13)) l) H (loopQ 36 slices_Concat_byte_byte_P0 13 N Qx Qr) = slices_Concat_byte_byte_L0 l H N Qx Qr := by kernel_rfl
theorem slices_Concat_byte_byte_L0_ind (I : Nat → List Value → Heap → Prop) (Qx : Nat → List Value → Heap → Prop) (Qr : List Value → Heap → Prop) (hs : ∀ k l H, I k l H → slices_Concat_byte_byte_L0 l H (fun l H => ∃ k', k' < k ∧ I k' l H) Qx Qr) (k : Nat) (l : List Value) (H : Heap) (h : I k l H) : wLoop P true 36 slices_Concat_byte_byte_P0 13 l H Qx Qr :=
  loop_ind (by kernel_rfl) I (fun k l H h => (slices_Concat_byte_byte_L0_eq l H _ Qx Qr).mpr (hs k l H h)) k l H h

/-- loop 1: goes on from the slots [2, 6, 25, 26, 27]; leaves [2, 6] -/
def slices_Concat_byte_byte_L1 (l : List Value) (H : Heap) (N : List Value → Heap → Prop) (Qx : Nat → List Value → Heap → Prop) (Qr : List Value → Heap → Prop) : Prop :=
opP ((binC P .lss 3 false).f (nth l 4) (nth l 3)) fun t28 =>
wIf t28 (
opP (idxSl 1 (nth l 2) (nth l 4)) fun t29 =>
opW (loadOne t29 H) fun t30 H3 =>
opW (appendWith 1 1 (nth l 1) t30 H3) fun t33 H5 =>
opP ((binC P .add 3 true).f (nth l 4) (.int .i64 1)) fun t34 =>
N [(nth l 0), t33, (nth l 2), (nth l 3), t34] H5) (
Qx 2 [(nth l 0), (nth l 1)] H)
theorem slices_Concat_byte_byte_L1_eq (l : List Value) (H : Heap) (N : List Value → Heap → Prop) (Qx : Nat → List Value → Heap → Prop) (Qr : List Value → Heap → Prop) : vcC P true 36 slices_Concat_byte_byte_P1 (live slices_Concat_byte_byte_P1 0 68) 68 (envOf (bits 36 (live slices_Concat_byte_byte_P1 0 68)) l) H (loopQ 36 slices_Concat_byte_byte_P1 68 N Qx Qr) = slices_Concat_byte_byte_L1 l H N Qx Qr := by kernel_rfl
theorem slices_Concat_byte_byte_L1_ind (I : Nat → List Value → Heap → Prop) (Qx : Nat → List Value → Heap → Prop) (Qr : List Value → Heap → Prop) (hs : ∀ k l H, I k l H → slices_Concat_byte_byte_L1 l H (fun l H => ∃ k', k' < k ∧ I k' l H) Qx Qr) (k : Nat) (l : List Value) (H : Heap) (h : I k l H) : wLoop P true 36 slices_Concat_byte_byte_P1 68 l H Qx Qr :=
  loop_ind (by kernel_rfl) I (fun k l H h => (slices_Concat_byte_byte_L1_eq l H _ Qx Qr).mpr (hs k l H h)) k l H h
def slices_Concat_byte_byte (t0 : Value) (H : Heap) (K : Value → Heap → Prop) : Prop :=
opW (lenSl t0 H) fun t10 H1 =>
wLoop P true 36 slices_Concat_byte_byte_P0 13 [t0, (.slice none 0 0), (.int .i64 0), t0, t10, (.int .i64 0)] H1 (fun id l H3 =>
cond (Nat.beq id 0) (
wCall P n_slices_Grow_byte_byte [(.slice none 0 0), (nth l 2)] H3 fun t24 H5 =>
opW (lenSl (nth l 0) H5) fun t26 H7 =>
wLoop P true 36 slices_Concat_byte_byte_P1 68 [(nth l 1), t24, (nth l 0), t26, (.int .i64 0)] H7 (fun id l_1 H9 =>
cond (Nat.beq id 2) (
K (nth l_1 1) H9) (
False)) (fun l_1 H9 =>
K (nth l_1 0) H9)) (
False)) (fun l H3 =>
K (nth l 1) H3)
theorem slices_Concat_byte_byte_eq (t0 : Value) (H : Heap) (K : Value → Heap → Prop) : vcF P n_slices_Concat_byte_byte [t0] H K = slices_Concat_byte_byte t0 H K := by kernel_rfl
theorem slices_Concat_byte_byte_ok {t0 : Value} {H : Heap} {K : Value → Heap → Prop} (h : slices_Concat_byte_byte t0 H K) : wCall P n_slices_Concat_byte_byte [t0] H K := wCall_of_vcF rfl ((slices_Concat_byte_byte_eq t0 H K).mpr h)

/-! bootjack/crc.More -/
noncomputable abbrev crc_More_P0 : Code := loopAt P n_crc_More 0
/-- loop 0: goes on from the slots [4, 5, 10, 11, 12]; leaves [4, 5] -/
def crc_More_L0 (l : List Value) (H : Heap) (N : List Value → Heap → Prop) (Qx : Nat → List Value → Heap → Prop) (Qr : List Value → Heap → Prop) : Prop :=
opP ((binC P .lss 3 false).f (nth l 4) (nth l 3)) fun t13 =>
wIf t13 (
opP (idxSl 1 (nth l 2) (nth l 4)) fun t14 =>
opW (loadOne t14 H) fun t15 H3 =>
opW (cvInt .u32 t15 H3) fun t18 H5 =>
opP ((binC P .xor 105 false).f (nth l 1) t18) fun t19 =>
wCall P n_crc_step [t19] H5 fun t20 H8 =>
opP ((binC P .add 3 true).f (nth l 4) (.int .i64 1)) fun t21 =>
N [(nth l 0), t20, (nth l 2), (nth l 3), t21] H8) (
Qx 0 [(nth l 0), (nth l 1)] H)
theorem crc_More_L0_eq (l : List Value) (H : Heap) (N : List Value → Heap → Prop) (Qx : Nat → List Value → Heap → Prop) (Qr : List Value → Heap → Prop) : vcC P true 24 crc_More_P0 (live crc_More_P0 0 48) 48 (envOf (bits 24 (live crc_More_P0 0 48)) l) H (loopQ 24 crc_More_P0 48 N Qx Qr) = crc_More_L0 l H N Qx Qr := by kernel_rfl
theorem crc_More_L0_ind (I : Nat → List Value → Heap → Prop) (Qx : Nat → List Value → Heap → Prop) (Qr : List Value → Heap → Prop) (hs : ∀ k l H, I k l H → crc_More_L0 l H (fun l H => ∃ k', k' < k ∧ I k' l H) Qx Qr) (k : Nat) (l : List Value) (H : Heap) (h : I k l H) : wLoop P true 24 crc_More_P0 48 l H Qx Qr :=
  loop_ind (by kernel_rfl) I (fun k l H h => (crc_More_L0_eq l H _ Qx Qr).mpr (hs k l H h)) k l H h
def crc_More (t0 t1 : Value) (H : Heap) (K : Value → Heap → Prop) : Prop :=
opP (unA .xor t0) fun t9 =>
opW (lenSl t1 H) fun t11 H2 =>
wLoop P true 24 crc_More_P0 48 [(.int .u32 0), t9, t1, t11, (.int .i64 0)] H2 (fun id l H4 =>
cond (Nat.beq id 0) (
opP (unA .xor (nth l 1)) fun t23 =>
K t23 H4) (
False)) (fun l H4 =>
K (nth l 0) H4)
theorem crc_More_eq (t0 t1 : Value) (H : Heap) (K : Value → Heap → Prop) : vcF P n_crc_More [t0, t1] H K = crc_More t0 t1 H K := by kernel_rfl
theorem crc_More_ok {t0 t1 : Value} {H : Heap} {K : Value → Heap → Prop} (h : crc_More t0 t1 H K) : wCall P n_crc_More [t0, t1] H K := wCall_of_vcF rfl ((crc_More_eq t0 t1 H K).mpr h)

/-! (*bootjack/flash.Device).cell -/
def flash_Device_cell (t0 t1 : Value) (H : Heap) (K : Value → Heap → Prop) : Prop :=
wJoin (fun J =>
opP ((binC P .lss 3 true).f t1 (.int .i64 0)) fun t6 =>
wIf t6 (
opP (pickA t6 (.bool true) undef) fun t15 =>
wIf t15 (
K (.pointer none) H) (
J [t0, t1] H)) (
opP (nilCheckA t0) fun t10 =>
opP (offPtr 0 t10) fun t11 =>
opW (loadOne t11 H) fun t12 H6 =>
opW (lenSl t12 H6) fun t13 H8 =>
opP ((binC P .geq 3 false).f t1 t13) fun t14 =>
opP (pickA t6 (.bool true) t14) fun t15_1 =>
wIf t15_1 (
K (.pointer none) H8) (
J [t0, t1] H8))) (fun l H12 =>
opP (nilCheckA (nth l 0)) fun t17 =>
opP (offPtr 0 t17) fun t18 =>
opW (loadOne t18 H12) fun t19 H16 =>
opP (idxSl 129 t19 (nth l 1)) fun t21 =>
K t21 H16)
theorem flash_Device_cell_eq (t0 t1 : Value) (H : Heap) (K : Value → Heap → Prop) : vcF P n_flash_Device_cell [t0, t1] H K = flash_Device_cell t0 t1 H K := by kernel_rfl
theorem flash_Device_cell_ok {t0 t1 : Value} {H : Heap} {K : Value → Heap → Prop} (h : flash_Device_cell t0 t1 H K) : wCall P n_flash_Device_cell [t0, t1] H K := wCall_of_vcF rfl ((flash_Device_cell_eq t0 t1 H K).mpr h)

/-! (*bootjack/flash.Device).set -/
def flash_Device_set (t0 t1 t2 : Value) (H : Heap) (K : Value → Heap → Prop) : Prop :=
wNew (cellsL t2) H fun t5 H1 =>
opP (nilCheckA t0) fun t7 =>
opP (offPtr 0 t7) fun t8 =>
opW (loadOne t8 H1) fun t9 H5 =>
opW (loadAgg 64 t5 H5) fun t11 H7 =>
opP (idxSl 129 t9 t1) fun t12 =>
opP (offPtr 64 t12) fun t13 =>
opW (storeTo 64 t13 t11 H7) fun u H11 =>
opP (nilCheckA t0) fun t16 =>
opP (offPtr 1 t16) fun t17 =>
opW (loadOne t17 H11) fun t18 H15 =>
opW (loadAgg 64 t5 H15) fun t20 H17 =>
opP ((buildC P 77).f [(0, t1), (1, t20)]) fun t21 =>
opW ((buildSliceC P 71 1).f [(0, t21)] H17) fun t22 H20 =>
opW (appendWith 65 72 t18 t22 H20) fun t23 H22 =>
opP (nilCheckA t0) fun t24 =>
opP (offPtr 1 t24) fun t25 =>
opW (storeTo 1 t25 t23 H22) fun u_1 H26 =>
K (.tuple [].toArray) H26
theorem flash_Device_set_eq (t0 t1 t2 : Value) (H : Heap) (K : Value → Heap → Prop) : vcF P n_flash_Device_set [t0, t1, t2] H K = flash_Device_set t0 t1 t2 H K := by kernel_rfl
theorem flash_Device_set_ok {t0 t1 t2 : Value} {H : Heap} {K : Value → Heap → Prop} (h : flash_Device_set t0 t1 t2 H K) : wCall P n_flash_Device_set [t0, t1, t2] H K := wCall_of_vcF rfl ((flash_Device_set_eq t0 t1 t2 H K).mpr h)

/-! (*bootjack/code.Reader).fail -/
def code_Reader_fail (t0 t1 : Value) (H : Heap) (K : Value → Heap → Prop) : Prop :=
opP (nilCheckA t0) fun t5 =>
opP (offPtr 1 t5) fun t6 =>
opW (loadOne t6 H) fun t7 H3 =>
opP ((binC P .eql 30 true).f t7 (.int .i64 0)) fun t8 =>
wIf t8 (
opP (nilCheckA t0) fun t11 =>
opP (offPtr 1 t11) fun t12 =>
opW (storeTo 1 t12 t1 H3) fun u H8 =>
opP (nilCheckA t0) fun t14 =>
opP (offPtr 0 t14) fun t15 =>
opW (storeTo 1 t15 (.slice none 0 0) H8) fun u_1 H12 =>
K (.tuple [].toArray) H12) (
opP (nilCheckA t0) fun t14_1 =>
opP (offPtr 0 t14_1) fun t15_1 =>
opW (storeTo 1 t15_1 (.slice none 0 0) H3) fun u_2 H16 =>
K (.tuple [].toArray) H16)
theorem code_Reader_fail_eq (t0 t1 : Value) (H : Heap) (K : Value → Heap → Prop) : vcF P n_code_Reader_fail [t0, t1] H K = code_Reader_fail t0 t1 H K := by kernel_rfl
theorem code_Reader_fail_ok {t0 t1 : Value} {H : Heap} {K : Value → Heap → Prop} (h : code_Reader_fail t0 t1 H K) : wCall P n_code_Reader_fail [t0, t1] H K := wCall_of_vcF rfl ((code_Reader_fail_eq t0 t1 H K).mpr h)

/-! slices.Backward[[]byte,byte]$1 -/
noncomputable abbrev slices_Backward_byte_byte_1_P0 : Code := loopAt P n_slices_Backward_byte_byte_1 0
/-- loop 0: goes on from the slots [0, 1, 3]; leaves [] -/
def slices_Backward_byte_byte_1_L0 (l : List Value) (H : Heap) (N : List Value → Heap → Prop) (Qx : Nat → List Value → Heap → Prop) (Qr : List Value → Heap → Prop) : Prop :=
opP ((binC P .geq 3 true).f (nth l 2) (.int .i64 0)) fun t8 =>
wIf t8 (
opW (loadOne (nth l 1) H) fun t13 H2 =>
opP (idxSl 1 t13 (nth l 2)) fun t15 =>
opW (loadOne t15 H2) fun t16 H5 =>
wTgt P (callee1 (nth l 0) [(nth l 2), t16]) H5 fun t17 H7 =>
opP (unA .not t17) fun t18 =>
wIf t18 (
Qr [] H7) (
opP ((binC P .sub 3 true).f (nth l 2) (.int .i64 1)) fun t10 =>
N [(nth l 0), (nth l 1), t10] H7)) (
Qx 0 [] H)
theorem slices_Backward_byte_byte_1_L0_eq (l : List Value) (H : Heap) (N : List Value → Heap → Prop) (Qx : Nat → List Value → Heap → Prop) (Qr : List Value → Heap → Prop) : vcC P true 19 slices_Backward_byte_byte_1_P0 (live slices_Backward_byte_byte_1_P0 0 0) 0 (envOf (bits 19 (live slices_Backward_byte_byte_1_P0 0 0)) l) H (loopQ 19 slices_Backward_byte_byte_1_P0 0 N Qx Qr) = slices_Backward_byte_byte_1_L0 l H N Qx Qr := by kernel_rfl
theorem slices_Backward_byte_byte_1_L0_ind (I : Nat → List Value → Heap → Prop) (Qx : Nat → List Value → Heap → Prop) (Qr : List Value → Heap → Prop) (hs : ∀ k l H, I k l H → slices_Backward_byte_byte_1_L0 l H (fun l H => ∃ k', k' < k ∧ I k' l H) Qx Qr) (k : Nat) (l : List Value) (H : Heap) (h : I k l H) : wLoop P true 19 slices_Backward_byte_byte_1_P0 0 l H Qx Qr :=
  loop_ind (by kernel_rfl) I (fun k l H h => (slices_Backward_byte_byte_1_L0_eq l H _ Qx Qr).mpr (hs k l H h)) k l H h
def slices_Backward_byte_byte_1 (t0 t1 : Value) (H : Heap) (K : Value → Heap → Prop) : Prop :=
opW (loadOne t1 H) fun t4 H1 =>
opW (lenSl t4 H1) fun t5 H3 =>
opP ((binC P .sub 3 true).f t5 (.int .i64 1)) fun t6 =>
wLoop P true 19 slices_Backward_byte_byte_1_P0 0 [t0, t1, t6] H3 (fun id l H6 =>
cond (Nat.beq id 0) (
K (.tuple [].toArray) H6) (
False)) (fun l H6 =>
K (.tuple [].toArray) H6)
theorem slices_Backward_byte_byte_1_eq (t0 t1 : Value) (H : Heap) (K : Value → Heap → Prop) : vcF P n_slices_Backward_byte_byte_1 [t0, t1] H K = slices_Backward_byte_byte_1 t0 t1 H K := by kernel_rfl
theorem slices_Backward_byte_byte_1_ok {t0 t1 : Value} {H : Heap} {K : Value → Heap → Prop} (h : slices_Backward_byte_byte_1 t0 t1 H K) : wCall P n_slices_Backward_byte_byte_1 [t0, t1] H K := wCall_of_vcF rfl ((slices_Backward_byte_byte_1_eq t0 t1 H K).mpr h)

/-! slices.Grow[[]byte,byte] -/
def slices_Grow_byte_byte (t0 t1 : Value) (H : Heap) (K : Value → Heap → Prop) : Prop :=
wJoin (fun J =>
opP ((binC P .lss 3 true).f t1 (.int .i64 0)) fun t6 =>
wIf t6 (
False) (
J [t0, t1] H)) (fun l H3 =>
opW ((builtinC P .cap [32]).f [(nth l 0)] H3) fun t10 H5 =>
opW (lenSl (nth l 0) H5) fun t12 H7 =>
opP ((binC P .sub 3 false).f t10 t12) fun t13 =>
opP ((binC P .sub 3 false).f (nth l 1) t13) fun t14 =>
opP ((binC P .gtr 3 true).f t14 (.int .i64 0)) fun t16 =>
wIf t16 (
opW ((builtinC P .cap [32]).f [(nth l 0)] H7) fun t19 H12 =>
opP (sliceSl 1 (nth l 0) none (some t19) none) fun t20 =>
opW ((builtinC P .append [32, 3]).f [t20, t14] H12) fun t22 H15 =>
opW (lenSl (nth l 0) H15) fun t24 H17 =>
opP (sliceSl 1 t22 none (some t24) none) fun t25 =>
K t25 H17) (
K (nth l 0) H7))
theorem slices_Grow_byte_byte_eq (t0 t1 : Value) (H : Heap) (K : Value → Heap → Prop) : vcF P n_slices_Grow_byte_byte [t0, t1] H K = slices_Grow_byte_byte t0 t1 H K := by kernel_rfl
theorem slices_Grow_byte_byte_ok {t0 t1 : Value} {H : Heap} {K : Value → Heap → Prop} (h : slices_Grow_byte_byte t0 t1 H K) : wCall P n_slices_Grow_byte_byte [t0, t1] H K := wCall_of_vcF rfl ((slices_Grow_byte_byte_eq t0 t1 H K).mpr h)

/-! bootjack/crc.step -/
noncomputable abbrev crc_step_P0 : Code := loopAt P n_crc_step 0
/-- loop 0: goes on from the slots [0, 2, 3]; leaves [0, 2] -/
def crc_step_L0 (l : List Value) (H : Heap) (N : List Value → Heap → Prop) (Qx : Nat → List Value → Heap → Prop) (Qr : List Value → Heap → Prop) : Prop :=
opP ((binC P .lss 3 true).f (nth l 2) (.int .i64 8)) fun t4 =>
wIf t4 (
opP ((binC P .shr 105 true).f (nth l 0) (.int .u64 1)) fun t6 =>
opP ((binC P .and 105 true).f (nth l 0) (.int .u32 1)) fun t8 =>
opP (unA .neg t8) fun t9 =>
opP ((binC P .and 105 true).f (.int .u32 3988292384) t9) fun t10 =>
opP ((binC P .xor 105 false).f t6 t10) fun t11 =>
opP ((binC P .add 3 true).f (nth l 2) (.int .i64 1)) fun t12 =>
N [t11, (nth l 1), t12] H) (
Qx 0 [(nth l 0), (nth l 1)] H)
theorem crc_step_L0_eq (l : List Value) (H : Heap) (N : List Value → Heap → Prop) (Qx : Nat → List Value → Heap → Prop) (Qr : List Value → Heap → Prop) : vcC P true 14 crc_step_P0 (live crc_step_P0 0 5) 5 (envOf (bits 14 (live crc_step_P0 0 5)) l) H (loopQ 14 crc_step_P0 5 N Qx Qr) = crc_step_L0 l H N Qx Qr := by kernel_rfl
theorem crc_step_L0_ind (I : Nat → List Value → Heap → Prop) (Qx : Nat → List Value → Heap → Prop) (Qr : List Value → Heap → Prop) (hs : ∀ k l H, I k l H → crc_step_L0 l H (fun l H => ∃ k', k' < k ∧ I k' l H) Qx Qr) (k : Nat) (l : List Value) (H : Heap) (h : I k l H) : wLoop P true 14 crc_step_P0 5 l H Qx Qr :=
  loop_ind (by kernel_rfl) I (fun k l H h => (crc_step_L0_eq l H _ Qx Qr).mpr (hs k l H h)) k l H h
def crc_step (t0 : Value) (H : Heap) (K : Value → Heap → Prop) : Prop :=
wLoop P true 14 crc_step_P0 5 [t0, (.int .u32 0), (.int .i64 0)] H (fun id l H1 =>
cond (Nat.beq id 0) (
K (nth l 0) H1) (
False)) (fun l H1 =>
K (nth l 1) H1)
theorem crc_step_eq (t0 : Value) (H : Heap) (K : Value → Heap → Prop) : vcF P n_crc_step [t0] H K = crc_step t0 H K := by kernel_rfl
theorem crc_step_ok {t0 : Value} {H : Heap} {K : Value → Heap → Prop} (h : crc_step t0 H K) : wCall P n_crc_step [t0] H K := wCall_of_vcF rfl ((crc_step_eq t0 H K).mpr h)

end
end J
