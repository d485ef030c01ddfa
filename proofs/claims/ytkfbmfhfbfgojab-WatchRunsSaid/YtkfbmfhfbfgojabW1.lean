import Derived.Test.YtkfbmfhfbfgojabAbSl2
import Derived.Test.YtkfbmfhfbfgojabProg
import Derived.KernelRfl
set_option linter.unusedVariables false
set_option maxRecDepth 100000
namespace W
open Go Go.Ab
noncomputable abbrev P : Program := Go.Proofs.Try.prog
noncomputable section
abbrev n_law22_WatchRuns : Nat := 4
abbrev n_law22_WatchSeen : Nat := 5
abbrev n_law22_WatchTicks : Nat := 6
abbrev n_law22_watchAlive : Nat := 7
abbrev n_watch_New : Nat := 8
abbrev n_watch_Dog_Tick : Nat := 9
abbrev n_watch_Dog_Now : Nat := 10
abbrev n_watch_Dog_Err : Nat := 11
abbrev n_watch_Dog_Beat : Nat := 12
abbrev n_watch_Dog_Silent : Nat := 13
abbrev n_watch_Dog_Idle : Nat := 14
abbrev n_watch_Dog_Worst : Nat := 15
abbrev n_ref22_New : Nat := 16
abbrev n_ref22_Tick : Nat := 17
abbrev n_ref22_Beat : Nat := 18
abbrev n_ref22_Idle : Nat := 19
abbrev n_ref22_Silent : Nat := 20
abbrev n_law22_same : Nat := 21
abbrev n_ref22_Worst : Nat := 22
abbrev n_watch_Dog_has : Nat := 23
abbrev n_slices_Max_int_int : Nat := 24
abbrev n_slices_SortStableFunc_int_int : Nat := 25
abbrev n_watch_Dog_Worst_1 : Nat := 26
abbrev n_cmp_Compare_int : Nat := 27
abbrev n_slices_stableCmpFunc_int : Nat := 28
abbrev n_cmp_isNaN_int : Nat := 29
abbrev n_slices_insertionSortCmpFunc_int : Nat := 30
abbrev n_slices_symMergeCmpFunc_int : Nat := 31
abbrev n_slices_rotateCmpFunc_int : Nat := 32
abbrev n_slices_swapRangeCmpFunc_int : Nat := 33
instance : Orc := ⟨some n_law22_watchAlive⟩
theorem law22_watchAlive_spec {H : Heap} {K : Value → Heap → Prop} (hk : K (.bool true) H) : wCall P n_law22_watchAlive [] H K := ⟨1, .ret, _, H, rfl, hk⟩
/-! bootjack/bootjacklaw22.WatchRuns -/
noncomputable abbrev law22_WatchRuns_P0 : Code := loopAt P n_law22_WatchRuns 0
/-- loop 0: goes on from the slots [6, 7, 8, 22, 23, 24]; leaves [6] -/
def law22_WatchRuns_L0 (l : List Value) (H : Heap) (N : List Value → Heap → Prop) (Qx : Nat → List Value → Heap → Prop) (Qr : List Value → Heap → Prop) : Prop :=
opP ((binC P .lss 3 false).f (nth l 5) (nth l 4)) fun t25 =>
wIf t25 (
opP (idxSl 2 (nth l 3) (nth l 5)) fun t26 =>
opW (loadAgg 2 t26 H) fun t27 H3 =>
wNew (zc P 37) H3 fun t10 H5 =>
opW (storeTo 2 t10 t27 H5) fun u H7 =>
wJoin (fun J =>
opP (offPtr 0 t10) fun t28 =>
opW (loadOne t28 H7) fun t29 H11 =>
opP ((binC P .eql 3 true).f t29 (.int .i64 0)) fun t30 =>
wIf t30 (
opP (offPtr 1 t10) fun t32 =>
opW (loadOne t32 H11) fun t33 H15 =>
wCall P n_watch_Dog_Tick [(nth l 1), t33] H15 fun t34 H17 =>
opP (offPtr 1 t10) fun t36 =>
opW (loadOne t36 H17) fun t37 H20 =>
wCall P n_ref22_Tick [(nth l 2), t37] H20 fun t38 H22 =>
J [(nth l 0), (nth l 1), (nth l 2), t10, (nth l 3), (nth l 4), (nth l 5)] H22) (
opP (offPtr 1 t10) fun t40 =>
opW (loadOne t40 H11) fun t41 H25 =>
wCall P n_watch_Dog_Beat [(nth l 1), t41] H25 fun t42 H27 =>
opP (offPtr 1 t10) fun t44 =>
opW (loadOne t44 H27) fun t45 H30 =>
cSame (sameB H25 H27) (idsOf [t44]) ∧ (wCall P n_ref22_Beat [(nth l 2), t45] H30 fun t46 H32 =>
opP ((binC P .neq 4 false).f t42 t46) fun t47 =>
wIf t47 (
Qr [(.bool false)] H32) (
J [(nth l 0), (nth l 1), (nth l 2), t10, (nth l 3), (nth l 4), (nth l 5)] H32)))) (fun l_1 H35 =>
wCall P n_watch_Dog_Now [(nth l_1 1)] H35 fun t49 H37 =>
opP (nilCheckA (nth l_1 2)) fun t51 =>
opP (offPtr 0 t51) fun t52 =>
opW (loadOne t52 H37) fun t53 H41 =>
cSame (sameB H35 H37) (idsOf [t52]) ∧ (opP ((binC P .neq 3 false).f t49 t53) fun t54 =>
wIf t54 (
opP (pickA t54 (.bool true) undef) fun t61 =>
opP (pickA t61 (.bool true) undef) fun t74 =>
opP (pickA t74 (.bool true) undef) fun t84 =>
opP (pickA t84 (.bool true) undef) fun t95 =>
opP (pickA t95 (.bool true) undef) fun t103 =>
wIf t103 (
Qr [(.bool false)] H41) (
opP ((binC P .add 3 true).f (nth l_1 6) (.int .i64 1)) fun t104 =>
N [(nth l_1 0), (nth l_1 1), (nth l_1 2), (nth l_1 4), (nth l_1 5), t104] H41)) (
wCall P n_watch_Dog_Idle [(nth l_1 1)] H41 fun t57 H50 =>
wCall P n_ref22_Idle [(nth l_1 2)] H50 fun t59 H52 =>
opP ((binC P .neq 3 false).f t57 t59) fun t60 =>
opP (pickA t54 (.bool true) t60) fun t61_1 =>
wIf t61_1 (
opP (pickA t61_1 (.bool true) undef) fun t74_1 =>
opP (pickA t74_1 (.bool true) undef) fun t84_1 =>
opP (pickA t84_1 (.bool true) undef) fun t95_1 =>
opP (pickA t95_1 (.bool true) undef) fun t103_1 =>
wIf t103_1 (
Qr [(.bool false)] H52) (
opP ((binC P .add 3 true).f (nth l_1 6) (.int .i64 1)) fun t104_1 =>
N [(nth l_1 0), (nth l_1 1), (nth l_1 2), (nth l_1 4), (nth l_1 5), t104_1] H52)) (
wCall P n_watch_Dog_Err [(nth l_1 1)] H52 fun t64 H61 =>
opP ((binC P .eql 27 true).f t64 (.int .i64 221)) fun t65 =>
wCall P n_ref22_Idle [(nth l_1 2)] H61 fun t67 H64 =>
opP (nilCheckA (nth l_1 2)) fun t69 =>
opP (offPtr 1 t69) fun t70 =>
opW (loadOne t70 H64) fun t71 H68 =>
cSame (sameB H61 H64) (idsOf [t70]) ∧ (cSame (sameB H52 H61) (idsOf [t70]) ∧ (opP ((binC P .geq 3 false).f t67 t71) fun t72 =>
opP ((binC P .neq 4 false).f t65 t72) fun t73 =>
opP (pickA t61_1 (.bool true) t73) fun t74_2 =>
wIf t74_2 (
opP (pickA t74_2 (.bool true) undef) fun t84_2 =>
opP (pickA t84_2 (.bool true) undef) fun t95_2 =>
opP (pickA t95_2 (.bool true) undef) fun t103_2 =>
wIf t103_2 (
Qr [(.bool false)] H68) (
opP ((binC P .add 3 true).f (nth l_1 6) (.int .i64 1)) fun t104_2 =>
N [(nth l_1 0), (nth l_1 1), (nth l_1 2), (nth l_1 4), (nth l_1 5), t104_2] H68)) (
wCall P n_watch_Dog_Err [(nth l_1 1)] H68 fun t77 H77 =>
opP ((binC P .neq 27 true).f t77 (.int .i64 0)) fun t78 =>
wIf t78 (
wCall P n_watch_Dog_Err [(nth l_1 1)] H77 fun t81 H80 =>
opP ((binC P .neq 27 true).f t81 (.int .i64 221)) fun t82 =>
opP (pickA t78 t82 (.bool false)) fun t83 =>
opP (pickA t74_2 (.bool true) t83) fun t84_3 =>
wIf t84_3 (
opP (pickA t84_3 (.bool true) undef) fun t95_3 =>
opP (pickA t95_3 (.bool true) undef) fun t103_3 =>
wIf t103_3 (
Qr [(.bool false)] H80) (
opP ((binC P .add 3 true).f (nth l_1 6) (.int .i64 1)) fun t104_3 =>
N [(nth l_1 0), (nth l_1 1), (nth l_1 2), (nth l_1 4), (nth l_1 5), t104_3] H80)) (
opP (offPtr 1 (nth l_1 3)) fun t87 =>
opW (loadOne t87 H80) fun t88 H89 =>
wCall P n_watch_Dog_Silent [(nth l_1 1), t88] H89 fun t89 H91 =>
opP (offPtr 1 (nth l_1 3)) fun t91 =>
opW (loadOne t91 H91) fun t92 H94 =>
cSame (sameB H89 H91) (idsOf [t91]) ∧ (wCall P n_ref22_Silent [(nth l_1 2), t92] H94 fun t93 H96 =>
opP ((binC P .neq 3 false).f t89 t93) fun t94 =>
opP (pickA t84_3 (.bool true) t94) fun t95_4 =>
wIf t95_4 (
opP (pickA t95_4 (.bool true) undef) fun t103_4 =>
wIf t103_4 (
Qr [(.bool false)] H96) (
opP ((binC P .add 3 true).f (nth l_1 6) (.int .i64 1)) fun t104_4 =>
N [(nth l_1 0), (nth l_1 1), (nth l_1 2), (nth l_1 4), (nth l_1 5), t104_4] H96)) (
wCall P n_watch_Dog_Worst [(nth l_1 1)] H96 fun t98 H102 =>
wCall P n_ref22_Worst [(nth l_1 2)] H102 fun t100 H104 =>
wCall P n_law22_same [t98, t100] H104 fun t101 H106 =>
opP (unA .not t101) fun t102 =>
opP (pickA t95_4 (.bool true) t102) fun t103_5 =>
wIf t103_5 (
Qr [(.bool false)] H106) (
opP ((binC P .add 3 true).f (nth l_1 6) (.int .i64 1)) fun t104_5 =>
N [(nth l_1 0), (nth l_1 1), (nth l_1 2), (nth l_1 4), (nth l_1 5), t104_5] H106))))) (
opP (pickA t78 undef (.bool false)) fun t83_1 =>
opP (pickA t74_2 (.bool true) t83_1) fun t84_4 =>
opP (offPtr 1 (nth l_1 3)) fun t87_1 =>
opW (loadOne t87_1 H77) fun t88_1 H114 =>
wCall P n_watch_Dog_Silent [(nth l_1 1), t88_1] H114 fun t89_1 H116 =>
opP (offPtr 1 (nth l_1 3)) fun t91_1 =>
opW (loadOne t91_1 H116) fun t92_1 H119 =>
cSame (sameB H114 H116) (idsOf [t91_1]) ∧ (wCall P n_ref22_Silent [(nth l_1 2), t92_1] H119 fun t93_1 H121 =>
opP ((binC P .neq 3 false).f t89_1 t93_1) fun t94_1 =>
opP (pickA t84_4 (.bool true) t94_1) fun t95_5 =>
wIf t95_5 (
opP (pickA t95_5 (.bool true) undef) fun t103_6 =>
wIf t103_6 (
Qr [(.bool false)] H121) (
opP ((binC P .add 3 true).f (nth l_1 6) (.int .i64 1)) fun t104_6 =>
N [(nth l_1 0), (nth l_1 1), (nth l_1 2), (nth l_1 4), (nth l_1 5), t104_6] H121)) (
wCall P n_watch_Dog_Worst [(nth l_1 1)] H121 fun t98_1 H127 =>
wCall P n_ref22_Worst [(nth l_1 2)] H127 fun t100_1 H129 =>
wCall P n_law22_same [t98_1, t100_1] H129 fun t101_1 H131 =>
opP (unA .not t101_1) fun t102_1 =>
opP (pickA t95_5 (.bool true) t102_1) fun t103_7 =>
wIf t103_7 (
Qr [(.bool false)] H131) (
opP ((binC P .add 3 true).f (nth l_1 6) (.int .i64 1)) fun t104_7 =>
N [(nth l_1 0), (nth l_1 1), (nth l_1 2), (nth l_1 4), (nth l_1 5), t104_7] H131)))))))))))) (
Qx 0 [(nth l 0)] H)
theorem law22_WatchRuns_L0_eq (l : List Value) (H : Heap) (N : List Value → Heap → Prop) (Qx : Nat → List Value → Heap → Prop) (Qr : List Value → Heap → Prop) : vcC P true 105 law22_WatchRuns_P0 (live law22_WatchRuns_P0 0 64) 64 (envOf (bits 105 (live law22_WatchRuns_P0 0 64)) l) H (loopQ 105 law22_WatchRuns_P0 64 N Qx Qr) = law22_WatchRuns_L0 l H N Qx Qr := by kernel_rfl
theorem law22_WatchRuns_L0_ind (I : Nat → List Value → Heap → Prop) (Qx : Nat → List Value → Heap → Prop) (Qr : List Value → Heap → Prop) (hs : ∀ k l H, I k l H → law22_WatchRuns_L0 l H (fun l H => ∃ k', k' < k ∧ I k' l H) Qx Qr) (k : Nat) (l : List Value) (H : Heap) (h : I k l H) : wLoop P true 105 law22_WatchRuns_P0 64 l H Qx Qr :=
  loop_ind (by kernel_rfl) I (fun k l H h => (law22_WatchRuns_L0_eq l H _ Qx Qr).mpr (hs k l H h)) k l H h
def law22_WatchRuns (t0 t1 t2 : Value) (H : Heap) (K : Value → Heap → Prop) : Prop :=
wCall P n_law22_watchAlive [] H fun t11 H1 =>
opP (unA .not t11) fun t12 =>
wIf t12 (
K (.bool false) H1) (
opW (lenSl t2 H1) fun t14 H4 =>
opP ((binC P .gtr 3 true).f t14 (.int .i64 120)) fun t15 =>
wIf t15 (
K (.bool true) H4) (
wCall P n_watch_New [t0, t1] H4 fun t18 H7 =>
wCall P n_ref22_New [t0, t1] H7 fun t21 H9 =>
opW (lenSl t2 H9) fun t23 H11 =>
wLoop P true 105 law22_WatchRuns_P0 64 [(.bool false), t18, t21, t2, t23, (.int .i64 0)] H11 (fun id l H13 =>
cond (Nat.beq id 0) (
K (.bool true) H13) (
False)) (fun l H13 =>
K (nth l 0) H13)))
theorem law22_WatchRuns_eq (t0 t1 t2 : Value) (H : Heap) (K : Value → Heap → Prop) : vcF P n_law22_WatchRuns [t0, t1, t2] H K = law22_WatchRuns t0 t1 t2 H K := by kernel_rfl
theorem law22_WatchRuns_ok {t0 t1 t2 : Value} {H : Heap} {K : Value → Heap → Prop} (h : law22_WatchRuns t0 t1 t2 H K) : wCall P n_law22_WatchRuns [t0, t1, t2] H K := wCall_of_vcF rfl ((law22_WatchRuns_eq t0 t1 t2 H K).mpr h)

/-! bootjack/bootjacklaw22.WatchSeen -/
noncomputable abbrev law22_WatchSeen_P0 : Code := loopAt P n_law22_WatchSeen 0
noncomputable abbrev law22_WatchSeen_P1 : Code := loopAt P n_law22_WatchSeen 1
noncomputable abbrev law22_WatchSeen_P2 : Code := loopAt P n_law22_WatchSeen 2
/-- loop 0: goes on from the slots [0, 6, 7, 8, 29, 30, 31]; leaves [6] -/
def law22_WatchSeen_L0 (l : List Value) (H : Heap) (N : List Value → Heap → Prop) (Qx : Nat → List Value → Heap → Prop) (Qr : List Value → Heap → Prop) : Prop :=
opP ((binC P .lss 3 false).f (nth l 6) (nth l 5)) fun t32 =>
wIf t32 (
opP (idxSl 2 (nth l 4) (nth l 6)) fun t33 =>
opW (loadAgg 2 t33 H) fun t34 H3 =>
wNew (zc P 37) H3 fun t10 H5 =>
opW (storeTo 2 t10 t34 H5) fun u H7 =>
wCall P n_watch_Dog_Now [(nth l 2)] H7 fun t36 H9 =>
opP ((buildC P 47).f []) fun t37 =>
wNew (zc P 47) H9 fun t12 H12 =>
opW (storeTo 8 t12 t37 H12) fun u_1 H14 =>
wLoop P true 167 law22_WatchSeen_P1 3758104001 [(nth l 0), (nth l 1), (nth l 2), (nth l 3), t10, t36, t12, (nth l 4), (nth l 5), (nth l 6), (.int .i64 0)] H14 (fun id l_1 H16 =>
cond (Nat.beq id 2) (
wJoin (fun J =>
opP (offPtr 0 (nth l_1 4)) fun t47 =>
opW (loadOne t47 H16) fun t48 H20 =>
opP ((binC P .eql 3 true).f t48 (.int .i64 0)) fun t49 =>
wIf t49 (
opP (offPtr 1 (nth l_1 4)) fun t51 =>
opW (loadOne t51 H20) fun t52 H24 =>
wCall P n_watch_Dog_Tick [(nth l_1 2), t52] H24 fun t53 H26 =>
J [(nth l_1 0), (nth l_1 1), (nth l_1 2), (nth l_1 3), (nth l_1 4), (nth l_1 5), (nth l_1 6), (nth l_1 7), (nth l_1 8), (nth l_1 9)] H26) (
opP (offPtr 1 (nth l_1 4)) fun t55 =>
opW (loadOne t55 H20) fun t56 H29 =>
wCall P n_watch_Dog_Beat [(nth l_1 2), t56] H29 fun t57 H31 =>
opP (offPtr 1 (nth l_1 4)) fun t58 =>
opW (loadOne t58 H31) fun t59 H34 =>
cSame (sameB H29 H31) (idsOf [t58]) ∧ (opP ((binC P .geq 3 true).f t59 (.int .i64 0)) fun t60 =>
wIf t60 (
opP (offPtr 1 (nth l_1 4)) fun t62 =>
opW (loadOne t62 H34) fun t63 H38 =>
opP ((binC P .lss 3 false).f t63 (nth l_1 3)) fun t65 =>
opP (pickA t60 t65 (.bool false)) fun t66 =>
opP ((binC P .neq 4 false).f t57 t66) fun t67 =>
wIf t67 (
Qr [(.bool false)] H38) (
J [(nth l_1 0), (nth l_1 1), (nth l_1 2), (nth l_1 3), (nth l_1 4), (nth l_1 5), (nth l_1 6), (nth l_1 7), (nth l_1 8), (nth l_1 9)] H38)) (
opP (pickA t60 undef (.bool false)) fun t66_1 =>
opP ((binC P .neq 4 false).f t57 t66_1) fun t67_1 =>
wIf t67_1 (
Qr [(.bool false)] H34) (
J [(nth l_1 0), (nth l_1 1), (nth l_1 2), (nth l_1 3), (nth l_1 4), (nth l_1 5), (nth l_1 6), (nth l_1 7), (nth l_1 8), (nth l_1 9)] H34))))) (fun l_2 H45 =>
wCall P n_watch_Dog_Now [(nth l_2 2)] H45 fun t69 H47 =>
opP ((binC P .sub 3 false).f t69 (nth l_2 5)) fun t71 =>
wJoin (fun J_1 =>
opP ((binC P .lss 3 true).f t71 (.int .i64 0)) fun t73 =>
wIf t73 (
opP (pickA t73 (.bool true) undef) fun t82 =>
opP (pickA t82 (.bool true) undef) fun t87 =>
opP (pickA t87 (.bool true) undef) fun t105 =>
wIf t105 (
Qr [(.bool false)] H47) (
J_1 [(nth l_2 0), (nth l_2 1), (nth l_2 2), (nth l_2 3), (nth l_2 4), (nth l_2 6), t71, (nth l_2 7), (nth l_2 8), (nth l_2 9)] H47)) (
opP (offPtr 0 (nth l_2 4)) fun t75 =>
opW (loadOne t75 H47) fun t76 H56 =>
opP ((binC P .neq 3 true).f t76 (.int .i64 0)) fun t77 =>
wIf t77 (
opP ((binC P .neq 3 true).f t71 (.int .i64 0)) fun t80 =>
opP (pickA t77 t80 (.bool false)) fun t81 =>
opP (pickA t73 (.bool true) t81) fun t82_1 =>
wIf t82_1 (
opP (pickA t82_1 (.bool true) undef) fun t87_1 =>
opP (pickA t87_1 (.bool true) undef) fun t105_1 =>
wIf t105_1 (
Qr [(.bool false)] H56) (
J_1 [(nth l_2 0), (nth l_2 1), (nth l_2 2), (nth l_2 3), (nth l_2 4), (nth l_2 6), t71, (nth l_2 7), (nth l_2 8), (nth l_2 9)] H56)) (
wCall P n_watch_Dog_Now [(nth l_2 2)] H56 fun t85 H64 =>
opP ((binC P .gtr 3 true).f t85 (.int .i64 1099511627776)) fun t86 =>
opP (pickA t82_1 (.bool true) t86) fun t87_2 =>
wIf t87_2 (
opP (pickA t87_2 (.bool true) undef) fun t105_2 =>
wIf t105_2 (
Qr [(.bool false)] H64) (
J_1 [(nth l_2 0), (nth l_2 1), (nth l_2 2), (nth l_2 3), (nth l_2 4), (nth l_2 6), t71, (nth l_2 7), (nth l_2 8), (nth l_2 9)] H64)) (
opP (offPtr 0 (nth l_2 4)) fun t89 =>
opW (loadOne t89 H64) fun t90 H70 =>
opP ((binC P .eql 3 true).f t90 (.int .i64 0)) fun t91 =>
wIf t91 (
opP (offPtr 1 (nth l_2 4)) fun t93 =>
opW (loadOne t93 H70) fun t94 H74 =>
opP ((binC P .gtr 3 true).f t94 (.int .i64 0)) fun t95 =>
opP (pickA t91 t95 (.bool false)) fun t96 =>
wIf t96 (
opP ((binC P .eql 3 true).f t71 (.int .i64 0)) fun t99 =>
opP (pickA t96 t99 (.bool false)) fun t100 =>
wIf t100 (
opP ((binC P .neq 3 true).f (nth l_2 5) (.int .i64 1099511627776)) fun t103 =>
opP (pickA t100 t103 (.bool false)) fun t104 =>
opP (pickA t87_2 (.bool true) t104) fun t105_3 =>
wIf t105_3 (
Qr [(.bool false)] H74) (
J_1 [(nth l_2 0), (nth l_2 1), (nth l_2 2), (nth l_2 3), (nth l_2 4), (nth l_2 6), t71, (nth l_2 7), (nth l_2 8), (nth l_2 9)] H74)) (
opP (pickA t100 undef (.bool false)) fun t104_1 =>
opP (pickA t87_2 (.bool true) t104_1) fun t105_4 =>
wIf t105_4 (
Qr [(.bool false)] H74) (
J_1 [(nth l_2 0), (nth l_2 1), (nth l_2 2), (nth l_2 3), (nth l_2 4), (nth l_2 6), t71, (nth l_2 7), (nth l_2 8), (nth l_2 9)] H74))) (
opP (pickA t96 undef (.bool false)) fun t100_1 =>
opP (pickA t100_1 undef (.bool false)) fun t104_2 =>
opP (pickA t87_2 (.bool true) t104_2) fun t105_5 =>
wIf t105_5 (
Qr [(.bool false)] H74) (
J_1 [(nth l_2 0), (nth l_2 1), (nth l_2 2), (nth l_2 3), (nth l_2 4), (nth l_2 6), t71, (nth l_2 7), (nth l_2 8), (nth l_2 9)] H74))) (
opP (pickA t91 undef (.bool false)) fun t96_1 =>
opP (pickA t96_1 undef (.bool false)) fun t100_2 =>
opP (pickA t100_2 undef (.bool false)) fun t104_3 =>
opP (pickA t87_2 (.bool true) t104_3) fun t105_6 =>
wIf t105_6 (
Qr [(.bool false)] H70) (
J_1 [(nth l_2 0), (nth l_2 1), (nth l_2 2), (nth l_2 3), (nth l_2 4), (nth l_2 6), t71, (nth l_2 7), (nth l_2 8), (nth l_2 9)] H70))))) (
opP (pickA t77 undef (.bool false)) fun t81_1 =>
opP (pickA t73 (.bool true) t81_1) fun t82_2 =>
wCall P n_watch_Dog_Now [(nth l_2 2)] H56 fun t85_1 H94 =>
opP ((binC P .gtr 3 true).f t85_1 (.int .i64 1099511627776)) fun t86_1 =>
opP (pickA t82_2 (.bool true) t86_1) fun t87_3 =>
wIf t87_3 (
opP (pickA t87_3 (.bool true) undef) fun t105_7 =>
wIf t105_7 (
Qr [(.bool false)] H94) (
J_1 [(nth l_2 0), (nth l_2 1), (nth l_2 2), (nth l_2 3), (nth l_2 4), (nth l_2 6), t71, (nth l_2 7), (nth l_2 8), (nth l_2 9)] H94)) (
opP (offPtr 0 (nth l_2 4)) fun t89_1 =>
opW (loadOne t89_1 H94) fun t90_1 H100 =>
opP ((binC P .eql 3 true).f t90_1 (.int .i64 0)) fun t91_1 =>
wIf t91_1 (
opP (offPtr 1 (nth l_2 4)) fun t93_1 =>
opW (loadOne t93_1 H100) fun t94_1 H104 =>
opP ((binC P .gtr 3 true).f t94_1 (.int .i64 0)) fun t95_1 =>
opP (pickA t91_1 t95_1 (.bool false)) fun t96_2 =>
wIf t96_2 (
opP ((binC P .eql 3 true).f t71 (.int .i64 0)) fun t99_1 =>
opP (pickA t96_2 t99_1 (.bool false)) fun t100_3 =>
wIf t100_3 (
opP ((binC P .neq 3 true).f (nth l_2 5) (.int .i64 1099511627776)) fun t103_1 =>
opP (pickA t100_3 t103_1 (.bool false)) fun t104_4 =>
opP (pickA t87_3 (.bool true) t104_4) fun t105_8 =>
wIf t105_8 (
Qr [(.bool false)] H104) (
J_1 [(nth l_2 0), (nth l_2 1), (nth l_2 2), (nth l_2 3), (nth l_2 4), (nth l_2 6), t71, (nth l_2 7), (nth l_2 8), (nth l_2 9)] H104)) (
opP (pickA t100_3 undef (.bool false)) fun t104_5 =>
opP (pickA t87_3 (.bool true) t104_5) fun t105_9 =>
wIf t105_9 (
Qr [(.bool false)] H104) (
J_1 [(nth l_2 0), (nth l_2 1), (nth l_2 2), (nth l_2 3), (nth l_2 4), (nth l_2 6), t71, (nth l_2 7), (nth l_2 8), (nth l_2 9)] H104))) (
opP (pickA t96_2 undef (.bool false)) fun t100_4 =>
opP (pickA t100_4 undef (.bool false)) fun t104_6 =>
opP (pickA t87_3 (.bool true) t104_6) fun t105_10 =>
wIf t105_10 (
Qr [(.bool false)] H104) (
J_1 [(nth l_2 0), (nth l_2 1), (nth l_2 2), (nth l_2 3), (nth l_2 4), (nth l_2 6), t71, (nth l_2 7), (nth l_2 8), (nth l_2 9)] H104))) (
opP (pickA t91_1 undef (.bool false)) fun t96_3 =>
opP (pickA t96_3 undef (.bool false)) fun t100_5 =>
opP (pickA t100_5 undef (.bool false)) fun t104_7 =>
opP (pickA t87_3 (.bool true) t104_7) fun t105_11 =>
wIf t105_11 (
Qr [(.bool false)] H100) (
J_1 [(nth l_2 0), (nth l_2 1), (nth l_2 2), (nth l_2 3), (nth l_2 4), (nth l_2 6), t71, (nth l_2 7), (nth l_2 8), (nth l_2 9)] H100)))))) (fun l_3 H122 =>
wCall P n_watch_Dog_Now [(nth l_3 2)] H122 fun t107 H124 =>
wLoop P true 167 law22_WatchSeen_P2 3758129601 [(nth l_3 0), (nth l_3 1), (nth l_3 2), (nth l_3 3), (nth l_3 4), (nth l_3 5), (nth l_3 6), t107, (nth l_3 7), (nth l_3 8), (nth l_3 9), (.int .i64 0)] H124 (fun id l_4 H126 =>
cond (Nat.beq id 4) (
wCall P n_watch_Dog_Idle [(nth l_4 2)] H126 fun t141 H128 =>
opP ((binC P .neq 3 false).f t141 (nth l_4 4)) fun t143 =>
wIf t143 (
opP (pickA t143 (.bool true) undef) fun t154 =>
opP (pickA t154 (.bool true) undef) fun t165 =>
wIf t165 (
Qr [(.bool false)] H128) (
opP ((binC P .add 3 true).f (nth l_4 7) (.int .i64 1)) fun t166 =>
N [(nth l_4 0), (nth l_4 1), (nth l_4 2), (nth l_4 3), (nth l_4 5), (nth l_4 6), t166] H128)) (
wCall P n_watch_Dog_Err [(nth l_4 2)] H128 fun t146 H134 =>
opP ((binC P .eql 27 true).f t146 (.int .i64 0)) fun t147 =>
opW (withH H134 (minA [(nth l_4 0), (.int .i64 1000000)])) fun t150 H137 =>
opW (withH H137 (maxA [(.int .i64 1), t150])) fun t151 H139 =>
opP ((binC P .lss 3 false).f (nth l_4 4) t151) fun t152 =>
opP ((binC P .neq 4 false).f t147 t152) fun t153 =>
opP (pickA t143 (.bool true) t153) fun t154_1 =>
wIf t154_1 (
opP (pickA t154_1 (.bool true) undef) fun t165_1 =>
wIf t165_1 (
Qr [(.bool false)] H139) (
opP ((binC P .add 3 true).f (nth l_4 7) (.int .i64 1)) fun t166_1 =>
N [(nth l_4 0), (nth l_4 1), (nth l_4 2), (nth l_4 3), (nth l_4 5), (nth l_4 6), t166_1] H139)) (
wCall P n_watch_Dog_Worst [(nth l_4 2)] H139 fun t157 H146 =>
opW (lenSl t157 H146) fun t158 H148 =>
opP ((binC P .eql 3 false).f t158 (nth l_4 3)) fun t160 =>
wCall P n_watch_Dog_Err [(nth l_4 2)] H148 fun t162 H151 =>
opP ((binC P .neq 27 true).f t162 (.int .i64 0)) fun t163 =>
opP ((binC P .neq 4 false).f t160 t163) fun t164 =>
opP (pickA t154_1 (.bool true) t164) fun t165_2 =>
wIf t165_2 (
Qr [(.bool false)] H151) (
opP ((binC P .add 3 true).f (nth l_4 7) (.int .i64 1)) fun t166_2 =>
N [(nth l_4 0), (nth l_4 1), (nth l_4 2), (nth l_4 3), (nth l_4 5), (nth l_4 6), t166_2] H151)))) (
cond (Nat.beq id 1) (
opP ((binC P .add 3 true).f (nth l_4 7) (.int .i64 1)) fun t166_3 =>
N [(nth l_4 0), (nth l_4 1), (nth l_4 2), (nth l_4 3), (nth l_4 5), (nth l_4 6), t166_3] H126) (
Qx id [(nth l_4 1)] H126))) (fun l_4 H126 =>
Qr [(nth l_4 1)] H126)))) (
cond (Nat.beq id 1) (
opP ((binC P .add 3 true).f (nth l_1 9) (.int .i64 1)) fun t166_4 =>
N [(nth l_1 0), (nth l_1 1), (nth l_1 2), (nth l_1 3), (nth l_1 7), (nth l_1 8), t166_4] H16) (
Qx id [(nth l_1 1)] H16))) (fun l_1 H16 =>
Qr [(nth l_1 1)] H16)) (
Qx 0 [(nth l 1)] H)
theorem law22_WatchSeen_L0_eq (l : List Value) (H : Heap) (N : List Value → Heap → Prop) (Qx : Nat → List Value → Heap → Prop) (Qr : List Value → Heap → Prop) : vcC P true 167 law22_WatchSeen_P0 (live law22_WatchSeen_P0 0 64) 64 (envOf (bits 167 (live law22_WatchSeen_P0 0 64)) l) H (loopQ 167 law22_WatchSeen_P0 64 N Qx Qr) = law22_WatchSeen_L0 l H N Qx Qr := by kernel_rfl
theorem law22_WatchSeen_L0_ind (I : Nat → List Value → Heap → Prop) (Qx : Nat → List Value → Heap → Prop) (Qr : List Value → Heap → Prop) (hs : ∀ k l H, I k l H → law22_WatchSeen_L0 l H (fun l H => ∃ k', k' < k ∧ I k' l H) Qx Qr) (k : Nat) (l : List Value) (H : Heap) (h : I k l H) : wLoop P true 167 law22_WatchSeen_P0 64 l H Qx Qr :=
  loop_ind (by kernel_rfl) I (fun k l H h => (law22_WatchSeen_L0_eq l H _ Qx Qr).mpr (hs k l H h)) k l H h

/-- loop 1: goes on from the slots [0, 6, 7, 8, 10, 11, 12, 29, 30, 31, 38]; leaves [0, 6, 7, 8, 10, 11, 12, 29, 30, 31] -/
def law22_WatchSeen_L1 (l : List Value) (H : Heap) (N : List Value → Heap → Prop) (Qx : Nat → List Value → Heap → Prop) (Qr : List Value → Heap → Prop) : Prop :=
opP ((binC P .lss 3 true).f (nth l 10) (.int .i64 8)) fun t39 =>
wIf t39 (
wCall P n_watch_Dog_Silent [(nth l 2), (nth l 10)] H fun t44 H2 =>
opP (idxPtr 8 1 (nth l 6) (nth l 10)) fun t45 =>
opW (storeTo 1 t45 t44 H2) fun u H5 =>
opP ((binC P .add 3 true).f (nth l 10) (.int .i64 1)) fun t46 =>
N [(nth l 0), (nth l 1), (nth l 2), (nth l 3), (nth l 4), (nth l 5), (nth l 6), (nth l 7), (nth l 8), (nth l 9), t46] H5) (
Qx 2 [(nth l 0), (nth l 1), (nth l 2), (nth l 3), (nth l 4), (nth l 5), (nth l 6), (nth l 7), (nth l 8), (nth l 9)] H)
theorem law22_WatchSeen_L1_eq (l : List Value) (H : Heap) (N : List Value → Heap → Prop) (Qx : Nat → List Value → Heap → Prop) (Qr : List Value → Heap → Prop) : vcC P true 167 law22_WatchSeen_P1 (live law22_WatchSeen_P1 0 3758104001) 3758104001 (envOf (bits 167 (live law22_WatchSeen_P1 0 3758104001)) l) H (loopQ 167 law22_WatchSeen_P1 3758104001 N Qx Qr) = law22_WatchSeen_L1 l H N Qx Qr := by kernel_rfl
theorem law22_WatchSeen_L1_ind (I : Nat → List Value → Heap → Prop) (Qx : Nat → List Value → Heap → Prop) (Qr : List Value → Heap → Prop) (hs : ∀ k l H, I k l H → law22_WatchSeen_L1 l H (fun l H => ∃ k', k' < k ∧ I k' l H) Qx Qr) (k : Nat) (l : List Value) (H : Heap) (h : I k l H) : wLoop P true 167 law22_WatchSeen_P1 3758104001 l H Qx Qr :=
  loop_ind (by kernel_rfl) I (fun k l H h => (law22_WatchSeen_L1_eq l H _ Qx Qr).mpr (hs k l H h)) k l H h

/-- loop 2: goes on from the slots [0, 6, 7, 8, 10, 12, 14, 15, 29, 30, 31, 108]; leaves [0, 6, 7, 8, 15, 29, 30, 31] -/
def law22_WatchSeen_L2 (l : List Value) (H : Heap) (N : List Value → Heap → Prop) (Qx : Nat → List Value → Heap → Prop) (Qr : List Value → Heap → Prop) : Prop :=
opP ((binC P .lss 3 true).f (nth l 11) (.int .i64 8)) fun t109 =>
wIf t109 (
opP (idxPtr 8 1 (nth l 5) (nth l 11)) fun t112 =>
opW (loadOne t112 H) fun t113 H3 =>
opP ((binC P .add 3 false).f t113 (nth l 6)) fun t115 =>
wJoin (fun J =>
opP ((binC P .geq 3 false).f (nth l 11) (nth l 3)) fun t118 =>
wIf t118 (
J [(nth l 0), (nth l 1), (nth l 2), (nth l 3), (nth l 4), (nth l 5), (nth l 6), (nth l 7), (nth l 11), (.int .i64 (-1)), (nth l 8), (nth l 9), (nth l 10), (nth l 11)] H3) (
opP (offPtr 0 (nth l 4)) fun t119 =>
opW (loadOne t119 H3) fun t120 H9 =>
opP ((binC P .neq 3 true).f t120 (.int .i64 0)) fun t121 =>
wIf t121 (
opP (offPtr 1 (nth l 4)) fun t124 =>
opW (loadOne t124 H9) fun t125 H13 =>
opP ((binC P .eql 3 false).f (nth l 11) t125) fun t126 =>
opP (pickA t121 t126 (.bool false)) fun t127 =>
wIf t127 (
J [(nth l 0), (nth l 1), (nth l 2), (nth l 3), (nth l 4), (nth l 5), (nth l 6), (nth l 7), (nth l 11), (.int .i64 0), (nth l 8), (nth l 9), (nth l 10), (nth l 11)] H13) (
J [(nth l 0), (nth l 1), (nth l 2), (nth l 3), (nth l 4), (nth l 5), (nth l 6), (nth l 7), (nth l 11), t115, (nth l 8), (nth l 9), (nth l 10), (nth l 11)] H13)) (
opP (pickA t121 undef (.bool false)) fun t127_1 =>
wIf t127_1 (
J [(nth l 0), (nth l 1), (nth l 2), (nth l 3), (nth l 4), (nth l 5), (nth l 6), (nth l 7), (nth l 11), (.int .i64 0), (nth l 8), (nth l 9), (nth l 10), (nth l 11)] H9) (
J [(nth l 0), (nth l 1), (nth l 2), (nth l 3), (nth l 4), (nth l 5), (nth l 6), (nth l 7), (nth l 11), t115, (nth l 8), (nth l 9), (nth l 10), (nth l 11)] H9)))) (fun l_1 H18 =>
wCall P n_watch_Dog_Silent [(nth l_1 2), (nth l_1 8)] H18 fun t130 H20 =>
opP ((binC P .neq 3 false).f t130 (nth l_1 9)) fun t132 =>
wIf t132 (
Qr [(nth l_1 0), (.bool false), (nth l_1 2), (nth l_1 3), (nth l_1 7), (nth l_1 10), (nth l_1 11), (nth l_1 12)] H20) (
opP ((binC P .lss 3 false).f (nth l_1 8) (nth l_1 3)) fun t135 =>
wIf t135 (
opW (withH H20 (minA [(nth l_1 7), (nth l_1 9)])) fun t138 H24 =>
opP ((binC P .add 3 true).f (nth l_1 13) (.int .i64 1)) fun t139 =>
N [(nth l_1 0), (nth l_1 1), (nth l_1 2), (nth l_1 3), (nth l_1 4), (nth l_1 5), (nth l_1 6), t138, (nth l_1 10), (nth l_1 11), (nth l_1 12), t139] H24) (
opP ((binC P .add 3 true).f (nth l_1 13) (.int .i64 1)) fun t139_1 =>
N [(nth l_1 0), (nth l_1 1), (nth l_1 2), (nth l_1 3), (nth l_1 4), (nth l_1 5), (nth l_1 6), (nth l_1 7), (nth l_1 10), (nth l_1 11), (nth l_1 12), t139_1] H20)))) (
Qx 4 [(nth l 0), (nth l 1), (nth l 2), (nth l 3), (nth l 7), (nth l 8), (nth l 9), (nth l 10)] H)
theorem law22_WatchSeen_L2_eq (l : List Value) (H : Heap) (N : List Value → Heap → Prop) (Qx : Nat → List Value → Heap → Prop) (Qr : List Value → Heap → Prop) : vcC P true 167 law22_WatchSeen_P2 (live law22_WatchSeen_P2 0 3758129601) 3758129601 (envOf (bits 167 (live law22_WatchSeen_P2 0 3758129601)) l) H (loopQ 167 law22_WatchSeen_P2 3758129601 N Qx Qr) = law22_WatchSeen_L2 l H N Qx Qr := by kernel_rfl
theorem law22_WatchSeen_L2_ind (I : Nat → List Value → Heap → Prop) (Qx : Nat → List Value → Heap → Prop) (Qr : List Value → Heap → Prop) (hs : ∀ k l H, I k l H → law22_WatchSeen_L2 l H (fun l H => ∃ k', k' < k ∧ I k' l H) Qx Qr) (k : Nat) (l : List Value) (H : Heap) (h : I k l H) : wLoop P true 167 law22_WatchSeen_P2 3758129601 l H Qx Qr :=
  loop_ind (by kernel_rfl) I (fun k l H h => (law22_WatchSeen_L2_eq l H _ Qx Qr).mpr (hs k l H h)) k l H h
def law22_WatchSeen (t0 t1 t2 : Value) (H : Heap) (K : Value → Heap → Prop) : Prop :=
wCall P n_law22_watchAlive [] H fun t18 H1 =>
opP (unA .not t18) fun t19 =>
wIf t19 (
K (.bool false) H1) (
opW (lenSl t2 H1) fun t21 H4 =>
opP ((binC P .gtr 3 true).f t21 (.int .i64 120)) fun t22 =>
wIf t22 (
K (.bool true) H4) (
wCall P n_watch_New [t0, t1] H4 fun t25 H7 =>
opW (withH H7 (minA [t1, (.int .i64 8)])) fun t27 H9 =>
opW (withH H9 (maxA [(.int .i64 1), t27])) fun t28 H11 =>
opW (lenSl t2 H11) fun t30 H13 =>
wLoop P true 167 law22_WatchSeen_P0 64 [t0, (.bool false), t25, t28, t2, t30, (.int .i64 0)] H13 (fun id l H15 =>
cond (Nat.beq id 0) (
K (.bool true) H15) (
False)) (fun l H15 =>
K (nth l 0) H15)))
theorem law22_WatchSeen_eq (t0 t1 t2 : Value) (H : Heap) (K : Value → Heap → Prop) : vcF P n_law22_WatchSeen [t0, t1, t2] H K = law22_WatchSeen t0 t1 t2 H K := by kernel_rfl
theorem law22_WatchSeen_ok {t0 t1 t2 : Value} {H : Heap} {K : Value → Heap → Prop} (h : law22_WatchSeen t0 t1 t2 H K) : wCall P n_law22_WatchSeen [t0, t1, t2] H K := wCall_of_vcF rfl ((law22_WatchSeen_eq t0 t1 t2 H K).mpr h)

/-! bootjack/bootjacklaw22.WatchTicks -/
noncomputable abbrev law22_WatchTicks_P0 : Code := loopAt P n_law22_WatchTicks 0
noncomputable abbrev law22_WatchTicks_P1 : Code := loopAt P n_law22_WatchTicks 1
/-- loop 0: goes on from the slots [2, 6, 7, 8, 9, 27, 28, 29]; leaves [6, 7, 8, 9] -/
def law22_WatchTicks_L0 (l : List Value) (H : Heap) (N : List Value → Heap → Prop) (Qx : Nat → List Value → Heap → Prop) (Qr : List Value → Heap → Prop) : Prop :=
opP ((binC P .lss 3 false).f (nth l 7) (nth l 6)) fun t30 =>
wIf t30 (
opP (idxSl 1 (nth l 5) (nth l 7)) fun t32 =>
opW (loadOne t32 H) fun t33 H3 =>
opW (cvInt .i64 t33 H3) fun t36 H5 =>
wCall P n_watch_Dog_Tick [(nth l 2), t36] H5 fun t37 H7 =>
opW (cvInt .i64 t33 H7) fun t40 H9 =>
opP ((binC P .add 3 false).f (nth l 4) t40) fun t41 =>
opW (lenSl (nth l 0) H9) fun t44 H12 =>
opP ((binC P .lss 3 false).f (nth l 7) t44) fun t45 =>
wIf t45 (
opP (idxSl 1 (nth l 0) (nth l 7)) fun t49 =>
opW (loadOne t49 H12) fun t50 H16 =>
opW (cvInt .i64 t50 H16) fun t51 H18 =>
opP ((binC P .rem 3 true).f t51 (.int .i64 3)) fun t52 =>
wCall P n_watch_Dog_Beat [(nth l 3), t52] H18 fun t53 H21 =>
opP ((binC P .add 3 true).f (nth l 7) (.int .i64 1)) fun t54 =>
N [(nth l 0), (nth l 1), (nth l 2), (nth l 3), t41, (nth l 5), (nth l 6), t54] H21) (
opP ((binC P .add 3 true).f (nth l 7) (.int .i64 1)) fun t54_1 =>
N [(nth l 0), (nth l 1), (nth l 2), (nth l 3), t41, (nth l 5), (nth l 6), t54_1] H12)) (
Qx 0 [(nth l 1), (nth l 2), (nth l 3), (nth l 4)] H)
theorem law22_WatchTicks_L0_eq (l : List Value) (H : Heap) (N : List Value → Heap → Prop) (Qx : Nat → List Value → Heap → Prop) (Qr : List Value → Heap → Prop) : vcC P true 98 law22_WatchTicks_P0 (live law22_WatchTicks_P0 0 960) 960 (envOf (bits 98 (live law22_WatchTicks_P0 0 960)) l) H (loopQ 98 law22_WatchTicks_P0 960 N Qx Qr) = law22_WatchTicks_L0 l H N Qx Qr := by kernel_rfl
theorem law22_WatchTicks_L0_ind (I : Nat → List Value → Heap → Prop) (Qx : Nat → List Value → Heap → Prop) (Qr : List Value → Heap → Prop) (hs : ∀ k l H, I k l H → law22_WatchTicks_L0 l H (fun l H => ∃ k', k' < k ∧ I k' l H) Qx Qr) (k : Nat) (l : List Value) (H : Heap) (h : I k l H) : wLoop P true 98 law22_WatchTicks_P0 960 l H Qx Qr :=
  loop_ind (by kernel_rfl) I (fun k l H h => (law22_WatchTicks_L0_eq l H _ Qx Qr).mpr (hs k l H h)) k l H h

/-- loop 1: goes on from the slots [6, 7, 8, 9, 58]; leaves [6, 7, 8, 9] -/
def law22_WatchTicks_L1 (l : List Value) (H : Heap) (N : List Value → Heap → Prop) (Qx : Nat → List Value → Heap → Prop) (Qr : List Value → Heap → Prop) : Prop :=
opP ((binC P .lss 3 true).f (nth l 4) (.int .i64 3)) fun t59 =>
wIf t59 (
wCall P n_watch_Dog_Silent [(nth l 1), (nth l 4)] H fun t63 H2 =>
opP ((binC P .neq 3 false).f t63 (nth l 3)) fun t65 =>
wIf t65 (
opP (pickA t65 (.bool true) undef) fun t72 =>
wIf t72 (
Qr [(.bool false), (nth l 1), (nth l 2), (nth l 3)] H2) (
opP ((binC P .add 3 true).f (nth l 4) (.int .i64 1)) fun t73 =>
N [(nth l 0), (nth l 1), (nth l 2), (nth l 3), t73] H2)) (
wCall P n_watch_Dog_Silent [(nth l 2), (nth l 4)] H2 fun t69 H7 =>
opP ((binC P .neq 3 false).f t69 (nth l 3)) fun t71 =>
opP (pickA t65 (.bool true) t71) fun t72_1 =>
wIf t72_1 (
Qr [(.bool false), (nth l 1), (nth l 2), (nth l 3)] H7) (
opP ((binC P .add 3 true).f (nth l 4) (.int .i64 1)) fun t73_1 =>
N [(nth l 0), (nth l 1), (nth l 2), (nth l 3), t73_1] H7))) (
Qx 2 [(nth l 0), (nth l 1), (nth l 2), (nth l 3)] H)
theorem law22_WatchTicks_L1_eq (l : List Value) (H : Heap) (N : List Value → Heap → Prop) (Qx : Nat → List Value → Heap → Prop) (Qr : List Value → Heap → Prop) : vcC P true 98 law22_WatchTicks_P1 (live law22_WatchTicks_P1 0 960) 960 (envOf (bits 98 (live law22_WatchTicks_P1 0 960)) l) H (loopQ 98 law22_WatchTicks_P1 960 N Qx Qr) = law22_WatchTicks_L1 l H N Qx Qr := by kernel_rfl
theorem law22_WatchTicks_L1_ind (I : Nat → List Value → Heap → Prop) (Qx : Nat → List Value → Heap → Prop) (Qr : List Value → Heap → Prop) (hs : ∀ k l H, I k l H → law22_WatchTicks_L1 l H (fun l H => ∃ k', k' < k ∧ I k' l H) Qx Qr) (k : Nat) (l : List Value) (H : Heap) (h : I k l H) : wLoop P true 98 law22_WatchTicks_P1 960 l H Qx Qr :=
  loop_ind (by kernel_rfl) I (fun k l H h => (law22_WatchTicks_L1_eq l H _ Qx Qr).mpr (hs k l H h)) k l H h
def law22_WatchTicks (t0 t1 t2 : Value) (H : Heap) (K : Value → Heap → Prop) : Prop :=
wCall P n_law22_watchAlive [] H fun t13 H1 =>
opP (unA .not t13) fun t14 =>
wIf t14 (
K (.bool false) H1) (
wJoin (fun J =>
opW (lenSl t1 H1) fun t16 H5 =>
opP ((binC P .gtr 3 true).f t16 (.int .i64 100)) fun t17 =>
wIf t17 (
opP (pickA t17 (.bool true) undef) fun t22 =>
wIf t22 (
K (.bool true) H5) (
J [t0, t1, t2, (.bool false)] H5)) (
opW (lenSl t2 H5) fun t20 H9 =>
opP ((binC P .gtr 3 true).f t20 (.int .i64 100)) fun t21 =>
opP (pickA t17 (.bool true) t21) fun t22_1 =>
wIf t22_1 (
K (.bool true) H9) (
J [t0, t1, t2, (.bool false)] H9))) (fun l H13 =>
wCall P n_watch_New [(nth l 0), (.int .i64 3)] H13 fun t24 H15 =>
wCall P n_watch_New [(nth l 0), (.int .i64 3)] H15 fun t26 H17 =>
opW (lenSl (nth l 1) H17) fun t28 H19 =>
wLoop P true 98 law22_WatchTicks_P0 960 [(nth l 2), (nth l 3), t24, t26, (.int .i64 0), (nth l 1), t28, (.int .i64 0)] H19 (fun id l_1 H21 =>
cond (Nat.beq id 0) (
wCall P n_watch_Dog_Tick [(nth l_1 2), (nth l_1 3)] H21 fun t57 H23 =>
wLoop P true 98 law22_WatchTicks_P1 960 [(nth l_1 0), (nth l_1 1), (nth l_1 2), (nth l_1 3), (.int .i64 0)] H23 (fun id l_2 H25 =>
cond (Nat.beq id 2) (
wCall P n_watch_Dog_Now [(nth l_2 1)] H25 fun t75 H27 =>
opP ((binC P .eql 3 false).f t75 (nth l_2 3)) fun t77 =>
wIf t77 (
wCall P n_watch_Dog_Now [(nth l_2 2)] H27 fun t80 H30 =>
opP ((binC P .eql 3 false).f t80 (nth l_2 3)) fun t82 =>
opP (pickA t77 t82 (.bool false)) fun t83 =>
wIf t83 (
wCall P n_watch_Dog_Idle [(nth l_2 1)] H30 fun t86 H34 =>
wCall P n_watch_Dog_Idle [(nth l_2 2)] H34 fun t88 H36 =>
opP ((binC P .eql 3 false).f t86 t88) fun t89 =>
opP (pickA t83 t89 (.bool false)) fun t90 =>
wIf t90 (
wCall P n_watch_Dog_Err [(nth l_2 1)] H36 fun t93 H40 =>
wCall P n_watch_Dog_Err [(nth l_2 2)] H40 fun t95 H42 =>
opP ((binC P .eql 27 false).f t93 t95) fun t96 =>
opP (pickA t90 t96 (.bool false)) fun t97 =>
K t97 H42) (
opP (pickA t90 undef (.bool false)) fun t97_1 =>
K t97_1 H36)) (
opP (pickA t83 undef (.bool false)) fun t90_1 =>
opP (pickA t90_1 undef (.bool false)) fun t97_2 =>
K t97_2 H30)) (
opP (pickA t77 undef (.bool false)) fun t83_1 =>
opP (pickA t83_1 undef (.bool false)) fun t90_2 =>
opP (pickA t90_2 undef (.bool false)) fun t97_3 =>
K t97_3 H27)) (
False)) (fun l_2 H25 =>
K (nth l_2 0) H25)) (
False)) (fun l_1 H21 =>
K (nth l_1 0) H21)))
theorem law22_WatchTicks_eq (t0 t1 t2 : Value) (H : Heap) (K : Value → Heap → Prop) : vcF P n_law22_WatchTicks [t0, t1, t2] H K = law22_WatchTicks t0 t1 t2 H K := by kernel_rfl
theorem law22_WatchTicks_ok {t0 t1 t2 : Value} {H : Heap} {K : Value → Heap → Prop} (h : law22_WatchTicks t0 t1 t2 H K) : wCall P n_law22_WatchTicks [t0, t1, t2] H K := wCall_of_vcF rfl ((law22_WatchTicks_eq t0 t1 t2 H K).mpr h)

/-! bootjack/watch.New -/
def watch_New (t0 t1 : Value) (H : Heap) (K : Value → Heap → Prop) : Prop :=
opW (withH H (minA [t0, (.int .i64 1000000)])) fun t6 H1 =>
opW (withH H1 (maxA [(.int .i64 1), t6])) fun t7 H3 =>
opW (withH H3 (minA [t1, (.int .i64 8)])) fun t9 H5 =>
opW (withH H5 (maxA [(.int .i64 1), t9])) fun t10 H7 =>
opW ((makeSliceC P 31).f t10 t10 H7) fun t11 H9 =>
opP ((buildC P 53).f [(1, t7), (2, t11)]) fun t12 =>
wNew (cellsL t12) H9 fun t13 H12 =>
K t13 H12
theorem watch_New_eq (t0 t1 : Value) (H : Heap) (K : Value → Heap → Prop) : vcF P n_watch_New [t0, t1] H K = watch_New t0 t1 H K := by kernel_rfl
theorem watch_New_ok {t0 t1 : Value} {H : Heap} {K : Value → Heap → Prop} (h : watch_New t0 t1 H K) : wCall P n_watch_New [t0, t1] H K := wCall_of_vcF rfl ((watch_New_eq t0 t1 H K).mpr h)

/-! (*bootjack/watch.Dog).Tick -/
def watch_Dog_Tick (t0 t1 : Value) (H : Heap) (K : Value → Heap → Prop) : Prop :=
opP (nilCheckA t0) fun t5 =>
opP (offPtr 0 t5) fun t6 =>
opW (loadOne t6 H) fun t7 H3 =>
opP (nilCheckA t0) fun t10 =>
opP (offPtr 0 t10) fun t11 =>
opW (loadOne t11 H3) fun t12 H7 =>
opP ((binC P .sub 3 true).f (.int .i64 1099511627776) t12) fun t13 =>
opW (withH H7 (minA [t1, t13])) fun t14 H10 =>
opW (withH H10 (maxA [(.int .i64 0), t14])) fun t15 H12 =>
opP ((binC P .add 3 false).f t7 t15) fun t16 =>
opP (nilCheckA t0) fun t17 =>
opP (offPtr 0 t17) fun t18 =>
opW (storeTo 1 t18 t16 H12) fun u H17 =>
K (.tuple [].toArray) H17
theorem watch_Dog_Tick_eq (t0 t1 : Value) (H : Heap) (K : Value → Heap → Prop) : vcF P n_watch_Dog_Tick [t0, t1] H K = watch_Dog_Tick t0 t1 H K := by kernel_rfl
theorem watch_Dog_Tick_ok {t0 t1 : Value} {H : Heap} {K : Value → Heap → Prop} (h : watch_Dog_Tick t0 t1 H K) : wCall P n_watch_Dog_Tick [t0, t1] H K := wCall_of_vcF rfl ((watch_Dog_Tick_eq t0 t1 H K).mpr h)

/-! (*bootjack/watch.Dog).Now -/
def watch_Dog_Now (t0 : Value) (H : Heap) (K : Value → Heap → Prop) : Prop :=
opP (nilCheckA t0) fun t4 =>
opP (offPtr 0 t4) fun t5 =>
opW (loadOne t5 H) fun t6 H3 =>
K t6 H3
theorem watch_Dog_Now_eq (t0 : Value) (H : Heap) (K : Value → Heap → Prop) : vcF P n_watch_Dog_Now [t0] H K = watch_Dog_Now t0 H K := by kernel_rfl
theorem watch_Dog_Now_ok {t0 : Value} {H : Heap} {K : Value → Heap → Prop} (h : watch_Dog_Now t0 H K) : wCall P n_watch_Dog_Now [t0] H K := wCall_of_vcF rfl ((watch_Dog_Now_eq t0 H K).mpr h)

/-! (*bootjack/watch.Dog).Err -/
def watch_Dog_Err (t0 : Value) (H : Heap) (K : Value → Heap → Prop) : Prop :=
wCall P n_watch_Dog_Idle [t0] H fun t4 H1 =>
opP (nilCheckA t0) fun t6 =>
opP (offPtr 1 t6) fun t7 =>
opW (loadOne t7 H1) fun t8 H5 =>
cSame (sameB H H1) (idsOf [t7]) ∧ (opP ((binC P .geq 3 false).f t4 t8) fun t9 =>
wIf t9 (
K (.int .i64 221) H5) (
K (.int .i64 0) H5))
theorem watch_Dog_Err_eq (t0 : Value) (H : Heap) (K : Value → Heap → Prop) : vcF P n_watch_Dog_Err [t0] H K = watch_Dog_Err t0 H K := by kernel_rfl
theorem watch_Dog_Err_ok {t0 : Value} {H : Heap} {K : Value → Heap → Prop} (h : watch_Dog_Err t0 H K) : wCall P n_watch_Dog_Err [t0] H K := wCall_of_vcF rfl ((watch_Dog_Err_eq t0 H K).mpr h)

/-! (*bootjack/watch.Dog).Beat -/
def watch_Dog_Beat (t0 t1 : Value) (H : Heap) (K : Value → Heap → Prop) : Prop :=
wCall P n_watch_Dog_has [t0, t1] H fun t7 H1 =>
opP (unA .not t7) fun t8 =>
wIf t8 (
K (.bool false) H1) (
opP (nilCheckA t0) fun t10 =>
opP (offPtr 2 t10) fun t11 =>
opW (loadOne t11 H1) fun t12 H6 =>
opP (nilCheckA t0) fun t15 =>
opP (offPtr 0 t15) fun t16 =>
opW (loadOne t16 H6) fun t17 H10 =>
opP (idxSl 1 t12 t1) fun t18 =>
opW (storeTo 1 t18 t17 H10) fun u H13 =>
K (.bool true) H13)
theorem watch_Dog_Beat_eq (t0 t1 : Value) (H : Heap) (K : Value → Heap → Prop) : vcF P n_watch_Dog_Beat [t0, t1] H K = watch_Dog_Beat t0 t1 H K := by kernel_rfl
theorem watch_Dog_Beat_ok {t0 t1 : Value} {H : Heap} {K : Value → Heap → Prop} (h : watch_Dog_Beat t0 t1 H K) : wCall P n_watch_Dog_Beat [t0, t1] H K := wCall_of_vcF rfl ((watch_Dog_Beat_eq t0 t1 H K).mpr h)

/-! (*bootjack/watch.Dog).Silent -/
def watch_Dog_Silent (t0 t1 : Value) (H : Heap) (K : Value → Heap → Prop) : Prop :=
wCall P n_watch_Dog_has [t0, t1] H fun t7 H1 =>
opP (unA .not t7) fun t8 =>
wIf t8 (
K (.int .i64 (-1)) H1) (
opP (nilCheckA t0) fun t10 =>
opP (offPtr 0 t10) fun t11 =>
opW (loadOne t11 H1) fun t12 H6 =>
opP (nilCheckA t0) fun t14 =>
opP (offPtr 2 t14) fun t15 =>
opW (loadOne t15 H6) fun t16 H10 =>
opP (idxSl 1 t16 t1) fun t18 =>
opW (loadOne t18 H10) fun t19 H13 =>
opP ((binC P .sub 3 false).f t12 t19) fun t20 =>
K t20 H13)
theorem watch_Dog_Silent_eq (t0 t1 : Value) (H : Heap) (K : Value → Heap → Prop) : vcF P n_watch_Dog_Silent [t0, t1] H K = watch_Dog_Silent t0 t1 H K := by kernel_rfl
theorem watch_Dog_Silent_ok {t0 t1 : Value} {H : Heap} {K : Value → Heap → Prop} (h : watch_Dog_Silent t0 t1 H K) : wCall P n_watch_Dog_Silent [t0, t1] H K := wCall_of_vcF rfl ((watch_Dog_Silent_eq t0 t1 H K).mpr h)

/-! (*bootjack/watch.Dog).Idle -/
def watch_Dog_Idle (t0 : Value) (H : Heap) (K : Value → Heap → Prop) : Prop :=
opP (nilCheckA t0) fun t4 =>
opP (offPtr 0 t4) fun t5 =>
opW (loadOne t5 H) fun t6 H3 =>
opP (nilCheckA t0) fun t8 =>
opP (offPtr 2 t8) fun t9 =>
opW (loadOne t9 H3) fun t10 H7 =>
wCall P n_slices_Max_int_int [t10] H7 fun t11 H9 =>
cSame (sameB H7 H9) (idsOf [t5]) ∧ (opP ((binC P .sub 3 false).f t6 t11) fun t12 =>
K t12 H9)
theorem watch_Dog_Idle_eq (t0 : Value) (H : Heap) (K : Value → Heap → Prop) : vcF P n_watch_Dog_Idle [t0] H K = watch_Dog_Idle t0 H K := by kernel_rfl
theorem watch_Dog_Idle_ok {t0 : Value} {H : Heap} {K : Value → Heap → Prop} (h : watch_Dog_Idle t0 H K) : wCall P n_watch_Dog_Idle [t0] H K := wCall_of_vcF rfl ((watch_Dog_Idle_eq t0 H K).mpr h)

/-! (*bootjack/watch.Dog).Worst -/
noncomputable abbrev watch_Dog_Worst_P0 : Code := loopAt P n_watch_Dog_Worst 0
/-- loop 0: goes on from the slots [1, 2, 3, 9, 10]; leaves [1, 2, 3] -/
def watch_Dog_Worst_L0 (l : List Value) (H : Heap) (N : List Value → Heap → Prop) (Qx : Nat → List Value → Heap → Prop) (Qr : List Value → Heap → Prop) : Prop :=
opP ((binC P .lss 3 false).f (nth l 4) (nth l 3)) fun t11 =>
wIf t11 (
opW (loadOne (nth l 0) H) fun t13 H2 =>
wCall P n_watch_Dog_Silent [t13, (nth l 4)] H2 fun t15 H4 =>
opW (loadOne (nth l 0) H4) fun t16 H6 =>
cSame (sameB H2 H4) (idsOf [(nth l 0)]) ∧ (opP (nilCheckA t16) fun t17 =>
opP (offPtr 1 t17) fun t18 =>
opW (loadOne t18 H6) fun t19 H10 =>
cSame (sameB H2 H4) (idsOf [t18]) ∧ (opP ((binC P .geq 3 false).f t15 t19) fun t20 =>
wIf t20 (
opW ((buildSliceC P 31 1).f [(0, (nth l 4))] H10) fun t23 H13 =>
opW (appendWith 1 8 (nth l 2) t23 H13) fun t24 H15 =>
opP ((binC P .add 3 true).f (nth l 4) (.int .i64 1)) fun t25 =>
N [(nth l 0), (nth l 1), t24, (nth l 3), t25] H15) (
opP ((binC P .add 3 true).f (nth l 4) (.int .i64 1)) fun t25_1 =>
N [(nth l 0), (nth l 1), (nth l 2), (nth l 3), t25_1] H10)))) (
Qx 0 [(nth l 0), (nth l 1), (nth l 2)] H)
theorem watch_Dog_Worst_L0_eq (l : List Value) (H : Heap) (N : List Value → Heap → Prop) (Qx : Nat → List Value → Heap → Prop) (Qr : List Value → Heap → Prop) : vcC P true 30 watch_Dog_Worst_P0 (live watch_Dog_Worst_P0 0 14) 14 (envOf (bits 30 (live watch_Dog_Worst_P0 0 14)) l) H (loopQ 30 watch_Dog_Worst_P0 14 N Qx Qr) = watch_Dog_Worst_L0 l H N Qx Qr := by kernel_rfl
theorem watch_Dog_Worst_L0_ind (I : Nat → List Value → Heap → Prop) (Qx : Nat → List Value → Heap → Prop) (Qr : List Value → Heap → Prop) (hs : ∀ k l H, I k l H → watch_Dog_Worst_L0 l H (fun l H => ∃ k', k' < k ∧ I k' l H) Qx Qr) (k : Nat) (l : List Value) (H : Heap) (h : I k l H) : wLoop P true 30 watch_Dog_Worst_P0 14 l H Qx Qr :=
  loop_ind (by kernel_rfl) I (fun k l H h => (watch_Dog_Worst_L0_eq l H _ Qx Qr).mpr (hs k l H h)) k l H h
def watch_Dog_Worst (t0 : Value) (H : Heap) (K : Value → Heap → Prop) : Prop :=
wNew (cellsL t0) H fun t1 H1 =>
opW (loadOne t1 H1) fun t5 H3 =>
opP (nilCheckA t5) fun t6 =>
opP (offPtr 2 t6) fun t7 =>
opW (loadOne t7 H3) fun t8 H7 =>
opW (lenSl t8 H7) fun t9 H9 =>
wLoop P true 30 watch_Dog_Worst_P0 14 [t1, (.slice none 0 0), (.slice none 0 0), t9, (.int .i64 0)] H9 (fun id l H11 =>
cond (Nat.beq id 0) (
wCall P n_slices_SortStableFunc_int_int [(nth l 2), (.func (.func n_watch_Dog_Worst_1) [].toArray [(nth l 0)].toArray)] H11 fun t28 H13 =>
K (nth l 2) H13) (
False)) (fun l H11 =>
K (nth l 1) H11)
theorem watch_Dog_Worst_eq (t0 : Value) (H : Heap) (K : Value → Heap → Prop) : vcF P n_watch_Dog_Worst [t0] H K = watch_Dog_Worst t0 H K := by kernel_rfl
theorem watch_Dog_Worst_ok {t0 : Value} {H : Heap} {K : Value → Heap → Prop} (h : watch_Dog_Worst t0 H K) : wCall P n_watch_Dog_Worst [t0] H K := wCall_of_vcF rfl ((watch_Dog_Worst_eq t0 H K).mpr h)

/-! bootjack/bootjackref22.New -/
def ref22_New (t0 t1 : Value) (H : Heap) (K : Value → Heap → Prop) : Prop :=
wJoin (fun J =>
opP ((binC P .lss 3 true).f t0 (.int .i64 1)) fun t6 =>
wIf t6 (
J [(.int .i64 1), t1] H) (
J [t0, t1] H)) (fun l H3 =>
wJoin (fun J_1 =>
opP ((binC P .gtr 3 true).f (nth l 0) (.int .i64 1000000)) fun t8 =>
wIf t8 (
J_1 [(.int .i64 1000000), (nth l 1)] H3) (
J_1 [(nth l 0), (nth l 1)] H3)) (fun l_1 H7 =>
wJoin (fun J_2 =>
opP ((binC P .lss 3 true).f (nth l_1 1) (.int .i64 1)) fun t10 =>
wIf t10 (
J_2 [(nth l_1 0), (.int .i64 1)] H7) (
J_2 [(nth l_1 0), (nth l_1 1)] H7)) (fun l_2 H11 =>
wJoin (fun J_3 =>
opP ((binC P .gtr 3 true).f (nth l_2 1) (.int .i64 8)) fun t12 =>
wIf t12 (
J_3 [(nth l_2 0), (.int .i64 8)] H11) (
J_3 [(nth l_2 0), (nth l_2 1)] H11)) (fun l_3 H15 =>
opW ((makeSliceC P 31).f (nth l_3 1) (nth l_3 1) H15) fun t15 H17 =>
opP ((buildC P 41).f [(1, (nth l_3 0)), (2, t15)]) fun t16 =>
wNew (cellsL t16) H17 fun t17 H20 =>
K t17 H20))))
theorem ref22_New_eq (t0 t1 : Value) (H : Heap) (K : Value → Heap → Prop) : vcF P n_ref22_New [t0, t1] H K = ref22_New t0 t1 H K := by kernel_rfl
theorem ref22_New_ok {t0 t1 : Value} {H : Heap} {K : Value → Heap → Prop} (h : ref22_New t0 t1 H K) : wCall P n_ref22_New [t0, t1] H K := wCall_of_vcF rfl ((ref22_New_eq t0 t1 H K).mpr h)

/-! bootjack/bootjackref22.Tick -/
def ref22_Tick (t0 t1 : Value) (H : Heap) (K : Value → Heap → Prop) : Prop :=
opP (nilCheckA t0) fun t6 =>
opP (offPtr 0 t6) fun t7 =>
opW (loadOne t7 H) fun t8 H3 =>
opP ((binC P .sub 3 true).f (.int .i64 1099511627776) t8) fun t9 =>
wJoin (fun J =>
opP ((binC P .gtr 3 false).f t1 t9) fun t12 =>
wIf t12 (
J [t0, t9] H3) (
J [t0, t1] H3)) (fun l H8 =>
opP ((binC P .gtr 3 true).f (nth l 1) (.int .i64 0)) fun t15 =>
wIf t15 (
opP (nilCheckA (nth l 0)) fun t17 =>
opP (offPtr 0 t17) fun t18 =>
opW (loadOne t18 H8) fun t19 H13 =>
opP ((binC P .add 3 false).f t19 (nth l 1)) fun t21 =>
opP (nilCheckA (nth l 0)) fun t22 =>
opP (offPtr 0 t22) fun t23 =>
opW (storeTo 1 t23 t21 H13) fun u H18 =>
K (.tuple [].toArray) H18) (
K (.tuple [].toArray) H8))
theorem ref22_Tick_eq (t0 t1 : Value) (H : Heap) (K : Value → Heap → Prop) : vcF P n_ref22_Tick [t0, t1] H K = ref22_Tick t0 t1 H K := by kernel_rfl
theorem ref22_Tick_ok {t0 t1 : Value} {H : Heap} {K : Value → Heap → Prop} (h : ref22_Tick t0 t1 H K) : wCall P n_ref22_Tick [t0, t1] H K := wCall_of_vcF rfl ((ref22_Tick_eq t0 t1 H K).mpr h)

/-! bootjack/bootjackref22.Beat -/
def ref22_Beat (t0 t1 : Value) (H : Heap) (K : Value → Heap → Prop) : Prop :=
wJoin (fun J =>
opP ((binC P .lss 3 true).f t1 (.int .i64 0)) fun t6 =>
wIf t6 (
opP (pickA t6 (.bool true) undef) fun t15 =>
wIf t15 (
K (.bool false) H) (
J [t0, t1] H)) (
opP (nilCheckA t0) fun t10 =>
opP (offPtr 2 t10) fun t11 =>
opW (loadOne t11 H) fun t12 H6 =>
opW (lenSl t12 H6) fun t13 H8 =>
opP ((binC P .geq 3 false).f t1 t13) fun t14 =>
opP (pickA t6 (.bool true) t14) fun t15_1 =>
wIf t15_1 (
K (.bool false) H8) (
J [t0, t1] H8))) (fun l H12 =>
opP (nilCheckA (nth l 0)) fun t17 =>
opP (offPtr 2 t17) fun t18 =>
opW (loadOne t18 H12) fun t19 H16 =>
opP (nilCheckA (nth l 0)) fun t22 =>
opP (offPtr 0 t22) fun t23 =>
opW (loadOne t23 H16) fun t24 H20 =>
opP (idxSl 1 t19 (nth l 1)) fun t25 =>
opW (storeTo 1 t25 t24 H20) fun u H23 =>
K (.bool true) H23)
theorem ref22_Beat_eq (t0 t1 : Value) (H : Heap) (K : Value → Heap → Prop) : vcF P n_ref22_Beat [t0, t1] H K = ref22_Beat t0 t1 H K := by kernel_rfl
theorem ref22_Beat_ok {t0 t1 : Value} {H : Heap} {K : Value → Heap → Prop} (h : ref22_Beat t0 t1 H K) : wCall P n_ref22_Beat [t0, t1] H K := wCall_of_vcF rfl ((ref22_Beat_eq t0 t1 H K).mpr h)

/-! bootjack/bootjackref22.Idle -/
noncomputable abbrev ref22_Idle_P0 : Code := loopAt P n_ref22_Idle 0
/-- loop 0: goes on from the slots [0, 2, 3, 11, 12]; leaves [2, 3] -/
def ref22_Idle_L0 (l : List Value) (H : Heap) (N : List Value → Heap → Prop) (Qx : Nat → List Value → Heap → Prop) (Qr : List Value → Heap → Prop) : Prop :=
opP ((binC P .lss 3 false).f (nth l 4) (nth l 3)) fun t13 =>
wIf t13 (
wCall P n_ref22_Silent [(nth l 0), (nth l 4)] H fun t18 H2 =>
opW (withH H2 (minA [(nth l 2), t18])) fun t19 H4 =>
opP ((binC P .add 3 true).f (nth l 4) (.int .i64 1)) fun t20 =>
N [(nth l 0), (nth l 1), t19, (nth l 3), t20] H4) (
Qx 0 [(nth l 1), (nth l 2)] H)
theorem ref22_Idle_L0_eq (l : List Value) (H : Heap) (N : List Value → Heap → Prop) (Qx : Nat → List Value → Heap → Prop) (Qr : List Value → Heap → Prop) : vcC P true 22 ref22_Idle_P0 (live ref22_Idle_P0 0 12) 12 (envOf (bits 22 (live ref22_Idle_P0 0 12)) l) H (loopQ 22 ref22_Idle_P0 12 N Qx Qr) = ref22_Idle_L0 l H N Qx Qr := by kernel_rfl
theorem ref22_Idle_L0_ind (I : Nat → List Value → Heap → Prop) (Qx : Nat → List Value → Heap → Prop) (Qr : List Value → Heap → Prop) (hs : ∀ k l H, I k l H → ref22_Idle_L0 l H (fun l H => ∃ k', k' < k ∧ I k' l H) Qx Qr) (k : Nat) (l : List Value) (H : Heap) (h : I k l H) : wLoop P true 22 ref22_Idle_P0 12 l H Qx Qr :=
  loop_ind (by kernel_rfl) I (fun k l H h => (ref22_Idle_L0_eq l H _ Qx Qr).mpr (hs k l H h)) k l H h
def ref22_Idle (t0 : Value) (H : Heap) (K : Value → Heap → Prop) : Prop :=
wCall P n_ref22_Silent [t0, (.int .i64 0)] H fun t6 H1 =>
opP (nilCheckA t0) fun t8 =>
opP (offPtr 2 t8) fun t9 =>
opW (loadOne t9 H1) fun t10 H5 =>
opW (lenSl t10 H5) fun t11 H7 =>
wLoop P true 22 ref22_Idle_P0 12 [t0, (.int .i64 0), t6, t11, (.int .i64 0)] H7 (fun id l H9 =>
cond (Nat.beq id 0) (
K (nth l 1) H9) (
False)) (fun l H9 =>
K (nth l 0) H9)
theorem ref22_Idle_eq (t0 : Value) (H : Heap) (K : Value → Heap → Prop) : vcF P n_ref22_Idle [t0] H K = ref22_Idle t0 H K := by kernel_rfl
theorem ref22_Idle_ok {t0 : Value} {H : Heap} {K : Value → Heap → Prop} (h : ref22_Idle t0 H K) : wCall P n_ref22_Idle [t0] H K := wCall_of_vcF rfl ((ref22_Idle_eq t0 H K).mpr h)

/-! bootjack/bootjackref22.Silent -/
def ref22_Silent (t0 t1 : Value) (H : Heap) (K : Value → Heap → Prop) : Prop :=
wJoin (fun J =>
opP ((binC P .lss 3 true).f t1 (.int .i64 0)) fun t6 =>
wIf t6 (
opP (pickA t6 (.bool true) undef) fun t15 =>
wIf t15 (
K (.int .i64 (-1)) H) (
J [t0, t1] H)) (
opP (nilCheckA t0) fun t10 =>
opP (offPtr 2 t10) fun t11 =>
opW (loadOne t11 H) fun t12 H6 =>
opW (lenSl t12 H6) fun t13 H8 =>
opP ((binC P .geq 3 false).f t1 t13) fun t14 =>
opP (pickA t6 (.bool true) t14) fun t15_1 =>
wIf t15_1 (
K (.int .i64 (-1)) H8) (
J [t0, t1] H8))) (fun l H12 =>
opP (nilCheckA (nth l 0)) fun t17 =>
opP (offPtr 0 t17) fun t18 =>
opW (loadOne t18 H12) fun t19 H16 =>
opP (nilCheckA (nth l 0)) fun t21 =>
opP (offPtr 2 t21) fun t22 =>
opW (loadOne t22 H16) fun t23 H20 =>
opP (idxSl 1 t23 (nth l 1)) fun t25 =>
opW (loadOne t25 H20) fun t26 H23 =>
opP ((binC P .sub 3 false).f t19 t26) fun t27 =>
K t27 H23)
theorem ref22_Silent_eq (t0 t1 : Value) (H : Heap) (K : Value → Heap → Prop) : vcF P n_ref22_Silent [t0, t1] H K = ref22_Silent t0 t1 H K := by kernel_rfl
theorem ref22_Silent_ok {t0 t1 : Value} {H : Heap} {K : Value → Heap → Prop} (h : ref22_Silent t0 t1 H K) : wCall P n_ref22_Silent [t0, t1] H K := wCall_of_vcF rfl ((ref22_Silent_eq t0 t1 H K).mpr h)

/-! bootjack/bootjacklaw22.same -/
noncomputable abbrev law22_same_P0 : Code := loopAt P n_law22_same 0
/-- loop 0: goes on from the slots [0, 1, 4, 12, 13]; leaves [4] -/
def law22_same_L0 (l : List Value) (H : Heap) (N : List Value → Heap → Prop) (Qx : Nat → List Value → Heap → Prop) (Qr : List Value → Heap → Prop) : Prop :=
opP ((binC P .lss 3 false).f (nth l 4) (nth l 3)) fun t14 =>
wIf t14 (
opP (idxSl 1 (nth l 0) (nth l 4)) fun t18 =>
opW (loadOne t18 H) fun t19 H3 =>
opP (idxSl 1 (nth l 1) (nth l 4)) fun t22 =>
opW (loadOne t22 H3) fun t23 H6 =>
opP ((binC P .neq 3 false).f t19 t23) fun t24 =>
wIf t24 (
Qr [(.bool false)] H6) (
opP ((binC P .add 3 true).f (nth l 4) (.int .i64 1)) fun t25 =>
N [(nth l 0), (nth l 1), (nth l 2), (nth l 3), t25] H6)) (
Qx 0 [(nth l 2)] H)
theorem law22_same_L0_eq (l : List Value) (H : Heap) (N : List Value → Heap → Prop) (Qx : Nat → List Value → Heap → Prop) (Qr : List Value → Heap → Prop) : vcC P true 26 law22_same_P0 (live law22_same_P0 0 16) 16 (envOf (bits 26 (live law22_same_P0 0 16)) l) H (loopQ 26 law22_same_P0 16 N Qx Qr) = law22_same_L0 l H N Qx Qr := by kernel_rfl
theorem law22_same_L0_ind (I : Nat → List Value → Heap → Prop) (Qx : Nat → List Value → Heap → Prop) (Qr : List Value → Heap → Prop) (hs : ∀ k l H, I k l H → law22_same_L0 l H (fun l H => ∃ k', k' < k ∧ I k' l H) Qx Qr) (k : Nat) (l : List Value) (H : Heap) (h : I k l H) : wLoop P true 26 law22_same_P0 16 l H Qx Qr :=
  loop_ind (by kernel_rfl) I (fun k l H h => (law22_same_L0_eq l H _ Qx Qr).mpr (hs k l H h)) k l H h
def law22_same (t0 t1 : Value) (H : Heap) (K : Value → Heap → Prop) : Prop :=
opW (lenSl t0 H) fun t7 H1 =>
opW (lenSl t1 H1) fun t9 H3 =>
opP ((binC P .neq 3 false).f t7 t9) fun t10 =>
wIf t10 (
K (.bool false) H3) (
opW (lenSl t0 H3) fun t12 H6 =>
wLoop P true 26 law22_same_P0 16 [t0, t1, (.bool false), t12, (.int .i64 0)] H6 (fun id l H8 =>
cond (Nat.beq id 0) (
K (.bool true) H8) (
False)) (fun l H8 =>
K (nth l 0) H8))
theorem law22_same_eq (t0 t1 : Value) (H : Heap) (K : Value → Heap → Prop) : vcF P n_law22_same [t0, t1] H K = law22_same t0 t1 H K := by kernel_rfl
theorem law22_same_ok {t0 t1 : Value} {H : Heap} {K : Value → Heap → Prop} (h : law22_same t0 t1 H K) : wCall P n_law22_same [t0, t1] H K := wCall_of_vcF rfl ((law22_same_eq t0 t1 H K).mpr h)

/-! bootjack/bootjackref22.Worst -/
noncomputable abbrev ref22_Worst_P0 : Code := loopAt P n_ref22_Worst 0
noncomputable abbrev ref22_Worst_P1 : Code := loopAt P n_ref22_Worst 1
/-- loop 0: goes on from the slots [0, 2, 3, 4, 18, 19]; leaves [2, 3] -/
def ref22_Worst_L0 (l : List Value) (H : Heap) (N : List Value → Heap → Prop) (Qx : Nat → List Value → Heap → Prop) (Qr : List Value → Heap → Prop) : Prop :=
opP ((binC P .lss 3 false).f (nth l 5) (nth l 4)) fun t20 =>
wIf t20 (
opP (nilCheckA (nth l 0)) fun t22 =>
opP (offPtr 2 t22) fun t23 =>
opW (loadOne t23 H) fun t24 H4 =>
opW (lenSl t24 H4) fun t25 H6 =>
wLoop P true 70 ref22_Worst_P1 786493 [(nth l 0), (nth l 1), (nth l 2), (nth l 3), (.int .i64 (-1)), (nth l 4), (nth l 5), t25, (.int .i64 0)] H6 (fun id l_1 H8 =>
cond (Nat.beq id 2) (
opP ((binC P .geq 3 true).f (nth l_1 4) (.int .i64 0)) fun t60 =>
wIf t60 (
opP (idxSl 1 (nth l_1 3) (nth l_1 4)) fun t63 =>
opW (storeTo 1 t63 (.bool true) H8) fun u H12 =>
opW ((buildSliceC P 31 1).f [(0, (nth l_1 4))] H12) fun t66 H14 =>
opW (appendWith 1 8 (nth l_1 2) t66 H14) fun t67 H16 =>
opP ((binC P .add 3 true).f (nth l_1 6) (.int .i64 1)) fun t68 =>
N [(nth l_1 0), (nth l_1 1), t67, (nth l_1 3), (nth l_1 5), t68] H16) (
opP ((binC P .add 3 true).f (nth l_1 6) (.int .i64 1)) fun t68_1 =>
N [(nth l_1 0), (nth l_1 1), (nth l_1 2), (nth l_1 3), (nth l_1 5), t68_1] H8)) (
cond (Nat.beq id 1) (
opP ((binC P .add 3 true).f (nth l_1 6) (.int .i64 1)) fun t68_2 =>
N [(nth l_1 0), (nth l_1 1), (nth l_1 2), (nth l_1 3), (nth l_1 5), t68_2] H8) (
Qx id [(nth l_1 1), (nth l_1 2)] H8))) (fun l_1 H8 =>
Qr [(nth l_1 1), (nth l_1 2)] H8)) (
Qx 0 [(nth l 1), (nth l 2)] H)
theorem ref22_Worst_L0_eq (l : List Value) (H : Heap) (N : List Value → Heap → Prop) (Qx : Nat → List Value → Heap → Prop) (Qr : List Value → Heap → Prop) : vcC P true 70 ref22_Worst_P0 (live ref22_Worst_P0 0 12) 12 (envOf (bits 70 (live ref22_Worst_P0 0 12)) l) H (loopQ 70 ref22_Worst_P0 12 N Qx Qr) = ref22_Worst_L0 l H N Qx Qr := by kernel_rfl
theorem ref22_Worst_L0_ind (I : Nat → List Value → Heap → Prop) (Qx : Nat → List Value → Heap → Prop) (Qr : List Value → Heap → Prop) (hs : ∀ k l H, I k l H → ref22_Worst_L0 l H (fun l H => ∃ k', k' < k ∧ I k' l H) Qx Qr) (k : Nat) (l : List Value) (H : Heap) (h : I k l H) : wLoop P true 70 ref22_Worst_P0 12 l H Qx Qr :=
  loop_ind (by kernel_rfl) I (fun k l H h => (ref22_Worst_L0_eq l H _ Qx Qr).mpr (hs k l H h)) k l H h

/-- loop 1: goes on from the slots [0, 2, 3, 4, 5, 18, 19, 25, 26]; leaves [0, 2, 3, 4, 5, 18, 19] -/
def ref22_Worst_L1 (l : List Value) (H : Heap) (N : List Value → Heap → Prop) (Qx : Nat → List Value → Heap → Prop) (Qr : List Value → Heap → Prop) : Prop :=
opP ((binC P .lss 3 false).f (nth l 8) (nth l 7)) fun t27 =>
wIf t27 (
wJoin (fun J =>
opP (idxSl 1 (nth l 3) (nth l 8)) fun t31 =>
opW (loadOne t31 H) fun t32 H4 =>
opP (unA .not t32) fun t33 =>
wIf t33 (
wCall P n_ref22_Silent [(nth l 0), (nth l 8)] H4 fun t37 H7 =>
opP (nilCheckA (nth l 0)) fun t39 =>
opP (offPtr 1 t39) fun t40 =>
opW (loadOne t40 H7) fun t41 H11 =>
cSame (sameB H4 H7) (idsOf [t40]) ∧ (opP ((binC P .geq 3 false).f t37 t41) fun t42 =>
opP (pickA t33 t42 (.bool false)) fun t43 =>
wIf t43 (
opP ((binC P .lss 3 true).f (nth l 4) (.int .i64 0)) fun t46 =>
wIf t46 (
opP (pickA t46 (.bool true) undef) fun t55 =>
opP (pickA t43 t55 (.bool false)) fun t56 =>
J [(nth l 0), (nth l 1), (nth l 2), (nth l 3), (nth l 4), (nth l 8), (nth l 5), (nth l 6), (nth l 7), (nth l 8), t56] H11) (
wCall P n_ref22_Silent [(nth l 0), (nth l 8)] H11 fun t50 H18 =>
wCall P n_ref22_Silent [(nth l 0), (nth l 4)] H18 fun t53 H20 =>
opP ((binC P .gtr 3 false).f t50 t53) fun t54 =>
opP (pickA t46 (.bool true) t54) fun t55_1 =>
opP (pickA t43 t55_1 (.bool false)) fun t56_1 =>
J [(nth l 0), (nth l 1), (nth l 2), (nth l 3), (nth l 4), (nth l 8), (nth l 5), (nth l 6), (nth l 7), (nth l 8), t56_1] H20)) (
opP (pickA t43 undef (.bool false)) fun t56_2 =>
J [(nth l 0), (nth l 1), (nth l 2), (nth l 3), (nth l 4), (nth l 8), (nth l 5), (nth l 6), (nth l 7), (nth l 8), t56_2] H11))) (
opP (pickA t33 undef (.bool false)) fun t43_1 =>
opP (pickA t43_1 undef (.bool false)) fun t56_3 =>
J [(nth l 0), (nth l 1), (nth l 2), (nth l 3), (nth l 4), (nth l 8), (nth l 5), (nth l 6), (nth l 7), (nth l 8), t56_3] H4)) (fun l_1 H28 =>
wIf (nth l_1 10) (
opP ((binC P .add 3 true).f (nth l_1 9) (.int .i64 1)) fun t58 =>
N [(nth l_1 0), (nth l_1 1), (nth l_1 2), (nth l_1 3), (nth l_1 5), (nth l_1 6), (nth l_1 7), (nth l_1 8), t58] H28) (
opP ((binC P .add 3 true).f (nth l_1 9) (.int .i64 1)) fun t58_1 =>
N [(nth l_1 0), (nth l_1 1), (nth l_1 2), (nth l_1 3), (nth l_1 4), (nth l_1 6), (nth l_1 7), (nth l_1 8), t58_1] H28))) (
Qx 2 [(nth l 0), (nth l 1), (nth l 2), (nth l 3), (nth l 4), (nth l 5), (nth l 6)] H)
theorem ref22_Worst_L1_eq (l : List Value) (H : Heap) (N : List Value → Heap → Prop) (Qx : Nat → List Value → Heap → Prop) (Qr : List Value → Heap → Prop) : vcC P true 70 ref22_Worst_P1 (live ref22_Worst_P1 0 786493) 786493 (envOf (bits 70 (live ref22_Worst_P1 0 786493)) l) H (loopQ 70 ref22_Worst_P1 786493 N Qx Qr) = ref22_Worst_L1 l H N Qx Qr := by kernel_rfl
theorem ref22_Worst_L1_ind (I : Nat → List Value → Heap → Prop) (Qx : Nat → List Value → Heap → Prop) (Qr : List Value → Heap → Prop) (hs : ∀ k l H, I k l H → ref22_Worst_L1 l H (fun l H => ∃ k', k' < k ∧ I k' l H) Qx Qr) (k : Nat) (l : List Value) (H : Heap) (h : I k l H) : wLoop P true 70 ref22_Worst_P1 786493 l H Qx Qr :=
  loop_ind (by kernel_rfl) I (fun k l H h => (ref22_Worst_L1_eq l H _ Qx Qr).mpr (hs k l H h)) k l H h
def ref22_Worst (t0 : Value) (H : Heap) (K : Value → Heap → Prop) : Prop :=
opW ((buildSliceC P 31 0).f [] H) fun t7 H1 =>
opP (nilCheckA t0) fun t9 =>
opP (offPtr 2 t9) fun t10 =>
opW (loadOne t10 H1) fun t11 H5 =>
opW (lenSl t11 H5) fun t12 H7 =>
opW ((makeSliceC P 57).f t12 t12 H7) fun t13 H9 =>
opP (nilCheckA t0) fun t15 =>
opP (offPtr 2 t15) fun t16 =>
opW (loadOne t16 H9) fun t17 H13 =>
opW (lenSl t17 H13) fun t18 H15 =>
wLoop P true 70 ref22_Worst_P0 12 [t0, (.slice none 0 0), t7, t13, t18, (.int .i64 0)] H15 (fun id l H17 =>
cond (Nat.beq id 0) (
K (nth l 1) H17) (
False)) (fun l H17 =>
K (nth l 0) H17)
theorem ref22_Worst_eq (t0 : Value) (H : Heap) (K : Value → Heap → Prop) : vcF P n_ref22_Worst [t0] H K = ref22_Worst t0 H K := by kernel_rfl
theorem ref22_Worst_ok {t0 : Value} {H : Heap} {K : Value → Heap → Prop} (h : ref22_Worst t0 H K) : wCall P n_ref22_Worst [t0] H K := wCall_of_vcF rfl ((ref22_Worst_eq t0 H K).mpr h)

/-! (*bootjack/watch.Dog).has -/
def watch_Dog_has (t0 t1 : Value) (H : Heap) (K : Value → Heap → Prop) : Prop :=
opP ((binC P .geq 3 true).f t1 (.int .i64 0)) fun t6 =>
wIf t6 (
opP (nilCheckA t0) fun t10 =>
opP (offPtr 2 t10) fun t11 =>
opW (loadOne t11 H) fun t12 H4 =>
opW (lenSl t12 H4) fun t13 H6 =>
opP ((binC P .lss 3 false).f t1 t13) fun t14 =>
opP (pickA t6 t14 (.bool false)) fun t15 =>
K t15 H6) (
opP (pickA t6 undef (.bool false)) fun t15_1 =>
K t15_1 H)
theorem watch_Dog_has_eq (t0 t1 : Value) (H : Heap) (K : Value → Heap → Prop) : vcF P n_watch_Dog_has [t0, t1] H K = watch_Dog_has t0 t1 H K := by kernel_rfl
theorem watch_Dog_has_ok {t0 t1 : Value} {H : Heap} {K : Value → Heap → Prop} (h : watch_Dog_has t0 t1 H K) : wCall P n_watch_Dog_has [t0, t1] H K := wCall_of_vcF rfl ((watch_Dog_has_eq t0 t1 H K).mpr h)

/-! slices.Max[[]int,int] -/
noncomputable abbrev slices_Max_int_int_P0 : Code := loopAt P n_slices_Max_int_int 0
/-- loop 0: goes on from the slots [0, 2, 3, 4]; leaves [2, 3] -/
def slices_Max_int_int_L0 (l : List Value) (H : Heap) (N : List Value → Heap → Prop) (Qx : Nat → List Value → Heap → Prop) (Qr : List Value → Heap → Prop) : Prop :=
opW (lenSl (nth l 0) H) fun t14 H1 =>
opP ((binC P .lss 3 false).f (nth l 3) t14) fun t15 =>
wIf t15 (
opP (idxSl 1 (nth l 0) (nth l 3)) fun t21 =>
opW (loadOne t21 H1) fun t22 H5 =>
opW (withH H5 (maxA [(nth l 2), t22])) fun t23 H7 =>
opP ((binC P .add 3 true).f (nth l 3) (.int .i64 1)) fun t17 =>
N [(nth l 0), (nth l 1), t23, t17] H7) (
Qx 0 [(nth l 1), (nth l 2)] H1)
theorem slices_Max_int_int_L0_eq (l : List Value) (H : Heap) (N : List Value → Heap → Prop) (Qx : Nat → List Value → Heap → Prop) (Qr : List Value → Heap → Prop) : vcC P true 25 slices_Max_int_int_P0 (live slices_Max_int_int_P0 0 12) 12 (envOf (bits 25 (live slices_Max_int_int_P0 0 12)) l) H (loopQ 25 slices_Max_int_int_P0 12 N Qx Qr) = slices_Max_int_int_L0 l H N Qx Qr := by kernel_rfl
theorem slices_Max_int_int_L0_ind (I : Nat → List Value → Heap → Prop) (Qx : Nat → List Value → Heap → Prop) (Qr : List Value → Heap → Prop) (hs : ∀ k l H, I k l H → slices_Max_int_int_L0 l H (fun l H => ∃ k', k' < k ∧ I k' l H) Qx Qr) (k : Nat) (l : List Value) (H : Heap) (h : I k l H) : wLoop P true 25 slices_Max_int_int_P0 12 l H Qx Qr :=
  loop_ind (by kernel_rfl) I (fun k l H h => (slices_Max_int_int_L0_eq l H _ Qx Qr).mpr (hs k l H h)) k l H h
def slices_Max_int_int (t0 : Value) (H : Heap) (K : Value → Heap → Prop) : Prop :=
wJoin (fun J =>
opW (lenSl t0 H) fun t6 H2 =>
opP ((binC P .lss 3 true).f t6 (.int .i64 1)) fun t7 =>
wIf t7 (
False) (
J [t0, (.int .i64 0)] H2)) (fun l H5 =>
opP (idxSl 1 (nth l 0) (.int .i64 0)) fun t10 =>
opW (loadOne t10 H5) fun t11 H8 =>
wLoop P true 25 slices_Max_int_int_P0 12 [(nth l 0), (nth l 1), t11, (.int .i64 1)] H8 (fun id l_1 H10 =>
cond (Nat.beq id 0) (
K (nth l_1 1) H10) (
False)) (fun l_1 H10 =>
K (nth l_1 0) H10))
theorem slices_Max_int_int_eq (t0 : Value) (H : Heap) (K : Value → Heap → Prop) : vcF P n_slices_Max_int_int [t0] H K = slices_Max_int_int t0 H K := by kernel_rfl
theorem slices_Max_int_int_ok {t0 : Value} {H : Heap} {K : Value → Heap → Prop} (h : slices_Max_int_int t0 H K) : wCall P n_slices_Max_int_int [t0] H K := wCall_of_vcF rfl ((slices_Max_int_int_eq t0 H K).mpr h)

/-! slices.SortStableFunc[[]int,int] -/
def slices_SortStableFunc_int_int (t0 t1 : Value) (H : Heap) (K : Value → Heap → Prop) : Prop :=
opW (lenSl t0 H) fun t6 H1 =>
wCall P n_slices_stableCmpFunc_int [t0, t6, t1] H1 fun t8 H3 =>
K (.tuple [].toArray) H3
theorem slices_SortStableFunc_int_int_eq (t0 t1 : Value) (H : Heap) (K : Value → Heap → Prop) : vcF P n_slices_SortStableFunc_int_int [t0, t1] H K = slices_SortStableFunc_int_int t0 t1 H K := by kernel_rfl
theorem slices_SortStableFunc_int_int_ok {t0 t1 : Value} {H : Heap} {K : Value → Heap → Prop} (h : slices_SortStableFunc_int_int t0 t1 H K) : wCall P n_slices_SortStableFunc_int_int [t0, t1] H K := wCall_of_vcF rfl ((slices_SortStableFunc_int_int_eq t0 t1 H K).mpr h)

/-! (*bootjack/watch.Dog).Worst$1 -/
def watch_Dog_Worst_1 (t0 t1 t2 : Value) (H : Heap) (K : Value → Heap → Prop) : Prop :=
opW (loadOne t2 H) fun t6 H1 =>
opP (nilCheckA t6) fun t7 =>
opP (offPtr 2 t7) fun t8 =>
opW (loadOne t8 H1) fun t9 H5 =>
opP (idxSl 1 t9 t0) fun t11 =>
opW (loadOne t11 H5) fun t12 H8 =>
opW (loadOne t2 H8) fun t13 H10 =>
opP (nilCheckA t13) fun t14 =>
opP (offPtr 2 t14) fun t15 =>
opW (loadOne t15 H10) fun t16 H14 =>
opP (idxSl 1 t16 t1) fun t18 =>
opW (loadOne t18 H14) fun t19 H17 =>
wCall P n_cmp_Compare_int [t12, t19] H17 fun t20 H19 =>
K t20 H19
theorem watch_Dog_Worst_1_eq (t0 t1 t2 : Value) (H : Heap) (K : Value → Heap → Prop) : vcF P n_watch_Dog_Worst_1 [t0, t1, t2] H K = watch_Dog_Worst_1 t0 t1 t2 H K := by kernel_rfl
theorem watch_Dog_Worst_1_ok {t0 t1 t2 : Value} {H : Heap} {K : Value → Heap → Prop} (h : watch_Dog_Worst_1 t0 t1 t2 H K) : wCall P n_watch_Dog_Worst_1 [t0, t1, t2] H K := wCall_of_vcF rfl ((watch_Dog_Worst_1_eq t0 t1 t2 H K).mpr h)

/-! cmp.Compare[int] -/
def cmp_Compare_int (t0 t1 : Value) (H : Heap) (K : Value → Heap → Prop) : Prop :=
wCall P n_cmp_isNaN_int [t0] H fun t8 H1 =>
wCall P n_cmp_isNaN_int [t1] H1 fun t10 H3 =>
wIf t8 (
wIf t10 (
K (.int .i64 0) H3) (
K (.int .i64 (-1)) H3)) (
wIf t10 (
K (.int .i64 1) H3) (
opP ((binC P .lss 3 false).f t0 t1) fun t16 =>
wIf t16 (
K (.int .i64 (-1)) H3) (
opP ((binC P .gtr 3 false).f t0 t1) fun t19 =>
wIf t19 (
K (.int .i64 1) H3) (
K (.int .i64 0) H3))))
theorem cmp_Compare_int_eq (t0 t1 : Value) (H : Heap) (K : Value → Heap → Prop) : vcF P n_cmp_Compare_int [t0, t1] H K = cmp_Compare_int t0 t1 H K := by kernel_rfl
theorem cmp_Compare_int_ok {t0 t1 : Value} {H : Heap} {K : Value → Heap → Prop} (h : cmp_Compare_int t0 t1 H K) : wCall P n_cmp_Compare_int [t0, t1] H K := wCall_of_vcF rfl ((cmp_Compare_int_eq t0 t1 H K).mpr h)

/-! slices.stableCmpFunc[int] -/
noncomputable abbrev slices_stableCmpFunc_int_P0 : Code := loopAt P n_slices_stableCmpFunc_int 0
noncomputable abbrev slices_stableCmpFunc_int_P1 : Code := loopAt P n_slices_stableCmpFunc_int 1
noncomputable abbrev slices_stableCmpFunc_int_P2 : Code := loopAt P n_slices_stableCmpFunc_int 2
/-- loop 0: goes on from the slots [0, 1, 2, 6, 7, 8]; leaves [0, 1, 2, 6, 7] -/
def slices_stableCmpFunc_int_L0 (l : List Value) (H : Heap) (N : List Value → Heap → Prop) (Qx : Nat → List Value → Heap → Prop) (Qr : List Value → Heap → Prop) : Prop :=
opP ((binC P .leq 3 false).f (nth l 5) (nth l 1)) fun t13 =>
wIf t13 (
wCall P n_slices_insertionSortCmpFunc_int [(nth l 0), (nth l 4), (nth l 5), (nth l 2)] H fun t18 H2 =>
opP ((binC P .add 3 false).f (nth l 5) (nth l 3)) fun t22 =>
N [(nth l 0), (nth l 1), (nth l 2), (nth l 3), (nth l 5), t22] H2) (
Qx 0 [(nth l 0), (nth l 1), (nth l 2), (nth l 3), (nth l 4)] H)
theorem slices_stableCmpFunc_int_L0_eq (l : List Value) (H : Heap) (N : List Value → Heap → Prop) (Qx : Nat → List Value → Heap → Prop) (Qr : List Value → Heap → Prop) : vcC P true 63 slices_stableCmpFunc_int_P0 (live slices_stableCmpFunc_int_P0 0 199) 199 (envOf (bits 63 (live slices_stableCmpFunc_int_P0 0 199)) l) H (loopQ 63 slices_stableCmpFunc_int_P0 199 N Qx Qr) = slices_stableCmpFunc_int_L0 l H N Qx Qr := by kernel_rfl
theorem slices_stableCmpFunc_int_L0_ind (I : Nat → List Value → Heap → Prop) (Qx : Nat → List Value → Heap → Prop) (Qr : List Value → Heap → Prop) (hs : ∀ k l H, I k l H → slices_stableCmpFunc_int_L0 l H (fun l H => ∃ k', k' < k ∧ I k' l H) Qx Qr) (k : Nat) (l : List Value) (H : Heap) (h : I k l H) : wLoop P true 63 slices_stableCmpFunc_int_P0 199 l H Qx Qr :=
  loop_ind (by kernel_rfl) I (fun k l H h => (slices_stableCmpFunc_int_L0_eq l H _ Qx Qr).mpr (hs k l H h)) k l H h

/-- loop 1: goes on from the slots [0, 1, 2, 6]; leaves [] -/
def slices_stableCmpFunc_int_L1 (l : List Value) (H : Heap) (N : List Value → Heap → Prop) (Qx : Nat → List Value → Heap → Prop) (Qr : List Value → Heap → Prop) : Prop :=
opP ((binC P .lss 3 false).f (nth l 3) (nth l 1)) fun t30 =>
wIf t30 (
opP ((binC P .mul 3 true).f (.int .i64 2) (nth l 3)) fun t32 =>
wLoop P true 63 slices_stableCmpFunc_int_P2 199 [(nth l 0), (nth l 1), (nth l 2), (nth l 3), (.int .i64 0), t32] H (fun id l_1 H3 =>
cond (Nat.beq id 4) (
opP ((binC P .add 3 false).f (nth l_1 4) (nth l_1 3)) fun t51 =>
opP ((binC P .lss 3 false).f t51 (nth l_1 1)) fun t54 =>
wIf t54 (
wCall P n_slices_symMergeCmpFunc_int [(nth l_1 0), (nth l_1 4), t51, (nth l_1 1), (nth l_1 2)] H3 fun t60 H7 =>
opP ((binC P .mul 3 true).f (nth l_1 3) (.int .i64 2)) fun t62 =>
N [(nth l_1 0), (nth l_1 1), (nth l_1 2), t62] H7) (
opP ((binC P .mul 3 true).f (nth l_1 3) (.int .i64 2)) fun t62_1 =>
N [(nth l_1 0), (nth l_1 1), (nth l_1 2), t62_1] H3)) (
cond (Nat.beq id 3) (
N [(nth l_1 0), (nth l_1 1), (nth l_1 2), (nth l_1 3)] H3) (
Qx id [] H3))) (fun l_1 H3 =>
Qr [] H3)) (
Qx 2 [] H)
theorem slices_stableCmpFunc_int_L1_eq (l : List Value) (H : Heap) (N : List Value → Heap → Prop) (Qx : Nat → List Value → Heap → Prop) (Qr : List Value → Heap → Prop) : vcC P true 63 slices_stableCmpFunc_int_P1 (live slices_stableCmpFunc_int_P1 0 0) 0 (envOf (bits 63 (live slices_stableCmpFunc_int_P1 0 0)) l) H (loopQ 63 slices_stableCmpFunc_int_P1 0 N Qx Qr) = slices_stableCmpFunc_int_L1 l H N Qx Qr := by kernel_rfl
theorem slices_stableCmpFunc_int_L1_ind (I : Nat → List Value → Heap → Prop) (Qx : Nat → List Value → Heap → Prop) (Qr : List Value → Heap → Prop) (hs : ∀ k l H, I k l H → slices_stableCmpFunc_int_L1 l H (fun l H => ∃ k', k' < k ∧ I k' l H) Qx Qr) (k : Nat) (l : List Value) (H : Heap) (h : I k l H) : wLoop P true 63 slices_stableCmpFunc_int_P1 0 l H Qx Qr :=
  loop_ind (by kernel_rfl) I (fun k l H h => (slices_stableCmpFunc_int_L1_eq l H _ Qx Qr).mpr (hs k l H h)) k l H h

/-- loop 2: goes on from the slots [0, 1, 2, 6, 7, 8]; leaves [0, 1, 2, 6, 7] -/
def slices_stableCmpFunc_int_L2 (l : List Value) (H : Heap) (N : List Value → Heap → Prop) (Qx : Nat → List Value → Heap → Prop) (Qr : List Value → Heap → Prop) : Prop :=
opP ((binC P .leq 3 false).f (nth l 5) (nth l 1)) fun t35 =>
wIf t35 (
opP ((binC P .add 3 false).f (nth l 4) (nth l 3)) fun t40 =>
wCall P n_slices_symMergeCmpFunc_int [(nth l 0), (nth l 4), t40, (nth l 5), (nth l 2)] H fun t43 H3 =>
opP ((binC P .mul 3 true).f (.int .i64 2) (nth l 3)) fun t47 =>
opP ((binC P .add 3 false).f (nth l 5) t47) fun t48 =>
N [(nth l 0), (nth l 1), (nth l 2), (nth l 3), (nth l 5), t48] H3) (
Qx 4 [(nth l 0), (nth l 1), (nth l 2), (nth l 3), (nth l 4)] H)
theorem slices_stableCmpFunc_int_L2_eq (l : List Value) (H : Heap) (N : List Value → Heap → Prop) (Qx : Nat → List Value → Heap → Prop) (Qr : List Value → Heap → Prop) : vcC P true 63 slices_stableCmpFunc_int_P2 (live slices_stableCmpFunc_int_P2 0 199) 199 (envOf (bits 63 (live slices_stableCmpFunc_int_P2 0 199)) l) H (loopQ 63 slices_stableCmpFunc_int_P2 199 N Qx Qr) = slices_stableCmpFunc_int_L2 l H N Qx Qr := by kernel_rfl
theorem slices_stableCmpFunc_int_L2_ind (I : Nat → List Value → Heap → Prop) (Qx : Nat → List Value → Heap → Prop) (Qr : List Value → Heap → Prop) (hs : ∀ k l H, I k l H → slices_stableCmpFunc_int_L2 l H (fun l H => ∃ k', k' < k ∧ I k' l H) Qx Qr) (k : Nat) (l : List Value) (H : Heap) (h : I k l H) : wLoop P true 63 slices_stableCmpFunc_int_P2 199 l H Qx Qr :=
  loop_ind (by kernel_rfl) I (fun k l H h => (slices_stableCmpFunc_int_L2_eq l H _ Qx Qr).mpr (hs k l H h)) k l H h
def slices_stableCmpFunc_int (t0 t1 t2 : Value) (H : Heap) (K : Value → Heap → Prop) : Prop :=
wLoop P true 63 slices_stableCmpFunc_int_P0 199 [t0, t1, t2, (.int .i64 20), (.int .i64 0), (.int .i64 20)] H (fun id l H1 =>
cond (Nat.beq id 0) (
wCall P n_slices_insertionSortCmpFunc_int [(nth l 0), (nth l 4), (nth l 1), (nth l 2)] H1 fun t27 H3 =>
wLoop P true 63 slices_stableCmpFunc_int_P1 0 [(nth l 0), (nth l 1), (nth l 2), (nth l 3)] H3 (fun id l_1 H5 =>
cond (Nat.beq id 2) (
K (.tuple [].toArray) H5) (
False)) (fun l_1 H5 =>
K (.tuple [].toArray) H5)) (
False)) (fun l H1 =>
K (.tuple [].toArray) H1)
theorem slices_stableCmpFunc_int_eq (t0 t1 t2 : Value) (H : Heap) (K : Value → Heap → Prop) : vcF P n_slices_stableCmpFunc_int [t0, t1, t2] H K = slices_stableCmpFunc_int t0 t1 t2 H K := by kernel_rfl
theorem slices_stableCmpFunc_int_ok {t0 t1 t2 : Value} {H : Heap} {K : Value → Heap → Prop} (h : slices_stableCmpFunc_int t0 t1 t2 H K) : wCall P n_slices_stableCmpFunc_int [t0, t1, t2] H K := wCall_of_vcF rfl ((slices_stableCmpFunc_int_eq t0 t1 t2 H K).mpr h)

/-! cmp.isNaN[int] -/
def cmp_isNaN_int (t0 : Value) (H : Heap) (K : Value → Heap → Prop) : Prop :=
opP ((binC P .neq 3 false).f t0 t0) fun t5 =>
K t5 H
theorem cmp_isNaN_int_eq (t0 : Value) (H : Heap) (K : Value → Heap → Prop) : vcF P n_cmp_isNaN_int [t0] H K = cmp_isNaN_int t0 H K := by kernel_rfl
theorem cmp_isNaN_int_ok {t0 : Value} {H : Heap} {K : Value → Heap → Prop} (h : cmp_isNaN_int t0 H K) : wCall P n_cmp_isNaN_int [t0] H K := wCall_of_vcF rfl ((cmp_isNaN_int_eq t0 H K).mpr h)

/-! slices.insertionSortCmpFunc[int] -/
noncomputable abbrev slices_insertionSortCmpFunc_int_P0 : Code := loopAt P n_slices_insertionSortCmpFunc_int 0
noncomputable abbrev slices_insertionSortCmpFunc_int_P1 : Code := loopAt P n_slices_insertionSortCmpFunc_int 1
/-- loop 0: goes on from the slots [0, 1, 2, 3, 8]; leaves [] -/
def slices_insertionSortCmpFunc_int_L0 (l : List Value) (H : Heap) (N : List Value → Heap → Prop) (Qx : Nat → List Value → Heap → Prop) (Qr : List Value → Heap → Prop) : Prop :=
opP ((binC P .lss 3 false).f (nth l 4) (nth l 2)) fun t14 =>
wIf t14 (
wLoop P true 53 slices_insertionSortCmpFunc_int_P1 271 [(nth l 0), (nth l 1), (nth l 2), (nth l 3), (nth l 4), (nth l 4)] H (fun id l_1 H2 =>
cond (Nat.beq id 2) (
opP ((binC P .add 3 true).f (nth l_1 4) (.int .i64 1)) fun t16 =>
N [(nth l_1 0), (nth l_1 1), (nth l_1 2), (nth l_1 3), t16] H2) (
cond (Nat.beq id 1) (
opP ((binC P .add 3 true).f (nth l_1 4) (.int .i64 1)) fun t16_1 =>
N [(nth l_1 0), (nth l_1 1), (nth l_1 2), (nth l_1 3), t16_1] H2) (
Qx id [] H2))) (fun l_1 H2 =>
Qr [] H2)) (
Qx 0 [] H)
theorem slices_insertionSortCmpFunc_int_L0_eq (l : List Value) (H : Heap) (N : List Value → Heap → Prop) (Qx : Nat → List Value → Heap → Prop) (Qr : List Value → Heap → Prop) : vcC P true 53 slices_insertionSortCmpFunc_int_P0 (live slices_insertionSortCmpFunc_int_P0 0 0) 0 (envOf (bits 53 (live slices_insertionSortCmpFunc_int_P0 0 0)) l) H (loopQ 53 slices_insertionSortCmpFunc_int_P0 0 N Qx Qr) = slices_insertionSortCmpFunc_int_L0 l H N Qx Qr := by kernel_rfl
theorem slices_insertionSortCmpFunc_int_L0_ind (I : Nat → List Value → Heap → Prop) (Qx : Nat → List Value → Heap → Prop) (Qr : List Value → Heap → Prop) (hs : ∀ k l H, I k l H → slices_insertionSortCmpFunc_int_L0 l H (fun l H => ∃ k', k' < k ∧ I k' l H) Qx Qr) (k : Nat) (l : List Value) (H : Heap) (h : I k l H) : wLoop P true 53 slices_insertionSortCmpFunc_int_P0 0 l H Qx Qr :=
  loop_ind (by kernel_rfl) I (fun k l H h => (slices_insertionSortCmpFunc_int_L0_eq l H _ Qx Qr).mpr (hs k l H h)) k l H h

/-- loop 1: goes on from the slots [0, 1, 2, 3, 8, 9]; leaves [0, 1, 2, 3, 8] -/
def slices_insertionSortCmpFunc_int_L1 (l : List Value) (H : Heap) (N : List Value → Heap → Prop) (Qx : Nat → List Value → Heap → Prop) (Qr : List Value → Heap → Prop) : Prop :=
wJoin (fun J =>
opP ((binC P .gtr 3 false).f (nth l 5) (nth l 1)) fun t20 =>
wIf t20 (
opP (idxSl 1 (nth l 0) (nth l 5)) fun t25 =>
opW (loadOne t25 H) fun t26 H4 =>
opP ((binC P .sub 3 true).f (nth l 5) (.int .i64 1)) fun t29 =>
opP (idxSl 1 (nth l 0) t29) fun t30 =>
opW (loadOne t30 H4) fun t31 H8 =>
wTgt P (callee1 (nth l 3) [t26, t31]) H8 fun t32 H10 =>
opP ((binC P .lss 3 true).f t32 (.int .i64 0)) fun t33 =>
opP (pickA t20 t33 (.bool false)) fun t34 =>
wIf t34 (
J [(nth l 0), (nth l 1), (nth l 2), (nth l 3), (nth l 4), (nth l 5)] H10) (
Qx 2 [(nth l 0), (nth l 1), (nth l 2), (nth l 3), (nth l 4)] H10)) (
opP (pickA t20 undef (.bool false)) fun t34_1 =>
wIf t34_1 (
J [(nth l 0), (nth l 1), (nth l 2), (nth l 3), (nth l 4), (nth l 5)] H) (
Qx 2 [(nth l 0), (nth l 1), (nth l 2), (nth l 3), (nth l 4)] H))) (fun l_1 H15 =>
opP ((binC P .sub 3 true).f (nth l_1 5) (.int .i64 1)) fun t41 =>
opP ((binC P .sub 3 true).f (nth l_1 5) (.int .i64 1)) fun t44 =>
opP (idxSl 1 (nth l_1 0) t44) fun t45 =>
opW (loadOne t45 H15) fun t46 H20 =>
opP (idxSl 1 (nth l_1 0) (nth l_1 5)) fun t49 =>
opW (loadOne t49 H20) fun t50 H23 =>
opP (idxSl 1 (nth l_1 0) (nth l_1 5)) fun t51 =>
opW (storeTo 1 t51 t46 H23) fun u H26 =>
opP (idxSl 1 (nth l_1 0) t41) fun t52 =>
opW (storeTo 1 t52 t50 H26) fun u_1 H29 =>
opP ((binC P .sub 3 true).f (nth l_1 5) (.int .i64 1)) fun t36 =>
N [(nth l_1 0), (nth l_1 1), (nth l_1 2), (nth l_1 3), (nth l_1 4), t36] H29)
theorem slices_insertionSortCmpFunc_int_L1_eq (l : List Value) (H : Heap) (N : List Value → Heap → Prop) (Qx : Nat → List Value → Heap → Prop) (Qr : List Value → Heap → Prop) : vcC P true 53 slices_insertionSortCmpFunc_int_P1 (live slices_insertionSortCmpFunc_int_P1 0 271) 271 (envOf (bits 53 (live slices_insertionSortCmpFunc_int_P1 0 271)) l) H (loopQ 53 slices_insertionSortCmpFunc_int_P1 271 N Qx Qr) = slices_insertionSortCmpFunc_int_L1 l H N Qx Qr := by kernel_rfl
theorem slices_insertionSortCmpFunc_int_L1_ind (I : Nat → List Value → Heap → Prop) (Qx : Nat → List Value → Heap → Prop) (Qr : List Value → Heap → Prop) (hs : ∀ k l H, I k l H → slices_insertionSortCmpFunc_int_L1 l H (fun l H => ∃ k', k' < k ∧ I k' l H) Qx Qr) (k : Nat) (l : List Value) (H : Heap) (h : I k l H) : wLoop P true 53 slices_insertionSortCmpFunc_int_P1 271 l H Qx Qr :=
  loop_ind (by kernel_rfl) I (fun k l H h => (slices_insertionSortCmpFunc_int_L1_eq l H _ Qx Qr).mpr (hs k l H h)) k l H h
def slices_insertionSortCmpFunc_int (t0 t1 t2 t3 : Value) (H : Heap) (K : Value → Heap → Prop) : Prop :=
opP ((binC P .add 3 true).f t1 (.int .i64 1)) fun t11 =>
wLoop P true 53 slices_insertionSortCmpFunc_int_P0 0 [t0, t1, t2, t3, t11] H (fun id l H2 =>
cond (Nat.beq id 0) (
K (.tuple [].toArray) H2) (
False)) (fun l H2 =>
K (.tuple [].toArray) H2)
theorem slices_insertionSortCmpFunc_int_eq (t0 t1 t2 t3 : Value) (H : Heap) (K : Value → Heap → Prop) : vcF P n_slices_insertionSortCmpFunc_int [t0, t1, t2, t3] H K = slices_insertionSortCmpFunc_int t0 t1 t2 t3 H K := by kernel_rfl
theorem slices_insertionSortCmpFunc_int_ok {t0 t1 t2 t3 : Value} {H : Heap} {K : Value → Heap → Prop} (h : slices_insertionSortCmpFunc_int t0 t1 t2 t3 H K) : wCall P n_slices_insertionSortCmpFunc_int [t0, t1, t2, t3] H K := wCall_of_vcF rfl ((slices_insertionSortCmpFunc_int_eq t0 t1 t2 t3 H K).mpr h)

/-! slices.symMergeCmpFunc[int] -/
noncomputable abbrev slices_symMergeCmpFunc_int_P0 : Code := loopAt P n_slices_symMergeCmpFunc_int 0
noncomputable abbrev slices_symMergeCmpFunc_int_P1 : Code := loopAt P n_slices_symMergeCmpFunc_int 1
noncomputable abbrev slices_symMergeCmpFunc_int_P2 : Code := loopAt P n_slices_symMergeCmpFunc_int 2
noncomputable abbrev slices_symMergeCmpFunc_int_P3 : Code := loopAt P n_slices_symMergeCmpFunc_int 3
noncomputable abbrev slices_symMergeCmpFunc_int_P4 : Code := loopAt P n_slices_symMergeCmpFunc_int 4
/-- loop 0: goes on from the slots [0, 1, 4, 10, 11]; leaves [0, 1, 10] -/
def slices_symMergeCmpFunc_int_L0 (l : List Value) (H : Heap) (N : List Value → Heap → Prop) (Qx : Nat → List Value → Heap → Prop) (Qr : List Value → Heap → Prop) : Prop :=
opP ((binC P .lss 3 false).f (nth l 3) (nth l 4)) fun t33 =>
wIf t33 (
opP ((binC P .add 3 false).f (nth l 3) (nth l 4)) fun t36 =>
opW (cvInt .u64 t36 H) fun t37 H3 =>
opP ((binC P .shr 61 true).f t37 (.int .u64 1)) fun t38 =>
opW (cvInt .i64 t38 H3) fun t39 H6 =>
opP (idxSl 1 (nth l 0) t39) fun t43 =>
opW (loadOne t43 H6) fun t44 H9 =>
opP (idxSl 1 (nth l 0) (nth l 1)) fun t47 =>
opW (loadOne t47 H9) fun t48 H12 =>
wTgt P (callee1 (nth l 2) [t44, t48]) H12 fun t49 H14 =>
opP ((binC P .lss 3 true).f t49 (.int .i64 0)) fun t50 =>
wIf t50 (
opP ((binC P .add 3 true).f t39 (.int .i64 1)) fun t52 =>
N [(nth l 0), (nth l 1), (nth l 2), t52, (nth l 4)] H14) (
N [(nth l 0), (nth l 1), (nth l 2), (nth l 3), t39] H14)) (
Qx 0 [(nth l 0), (nth l 1), (nth l 3)] H)
theorem slices_symMergeCmpFunc_int_L0_eq (l : List Value) (H : Heap) (N : List Value → Heap → Prop) (Qx : Nat → List Value → Heap → Prop) (Qr : List Value → Heap → Prop) : vcC P true 220 slices_symMergeCmpFunc_int_P0 (live slices_symMergeCmpFunc_int_P0 0 1027) 1027 (envOf (bits 220 (live slices_symMergeCmpFunc_int_P0 0 1027)) l) H (loopQ 220 slices_symMergeCmpFunc_int_P0 1027 N Qx Qr) = slices_symMergeCmpFunc_int_L0 l H N Qx Qr := by kernel_rfl
theorem slices_symMergeCmpFunc_int_L0_ind (I : Nat → List Value → Heap → Prop) (Qx : Nat → List Value → Heap → Prop) (Qr : List Value → Heap → Prop) (hs : ∀ k l H, I k l H → slices_symMergeCmpFunc_int_L0 l H (fun l H => ∃ k', k' < k ∧ I k' l H) Qx Qr) (k : Nat) (l : List Value) (H : Heap) (h : I k l H) : wLoop P true 220 slices_symMergeCmpFunc_int_P0 1027 l H Qx Qr :=
  loop_ind (by kernel_rfl) I (fun k l H h => (slices_symMergeCmpFunc_int_L0_eq l H _ Qx Qr).mpr (hs k l H h)) k l H h

/-- loop 1: goes on from the slots [0, 10, 13]; leaves [] -/
def slices_symMergeCmpFunc_int_L1 (l : List Value) (H : Heap) (N : List Value → Heap → Prop) (Qx : Nat → List Value → Heap → Prop) (Qr : List Value → Heap → Prop) : Prop :=
opP ((binC P .sub 3 true).f (nth l 1) (.int .i64 1)) fun t57 =>
opP ((binC P .lss 3 false).f (nth l 2) t57) fun t58 =>
wIf t58 (
opP ((binC P .add 3 true).f (nth l 2) (.int .i64 1)) fun t65 =>
opP ((binC P .add 3 true).f (nth l 2) (.int .i64 1)) fun t68 =>
opP (idxSl 1 (nth l 0) t68) fun t69 =>
opW (loadOne t69 H) fun t70 H6 =>
opP (idxSl 1 (nth l 0) (nth l 2)) fun t73 =>
opW (loadOne t73 H6) fun t74 H9 =>
opP (idxSl 1 (nth l 0) (nth l 2)) fun t75 =>
opW (storeTo 1 t75 t70 H9) fun u H12 =>
opP (idxSl 1 (nth l 0) t65) fun t76 =>
opW (storeTo 1 t76 t74 H12) fun u_1 H15 =>
opP ((binC P .add 3 true).f (nth l 2) (.int .i64 1)) fun t60 =>
N [(nth l 0), (nth l 1), t60] H15) (
Qx 2 [] H)
theorem slices_symMergeCmpFunc_int_L1_eq (l : List Value) (H : Heap) (N : List Value → Heap → Prop) (Qx : Nat → List Value → Heap → Prop) (Qr : List Value → Heap → Prop) : vcC P true 220 slices_symMergeCmpFunc_int_P1 (live slices_symMergeCmpFunc_int_P1 0 0) 0 (envOf (bits 220 (live slices_symMergeCmpFunc_int_P1 0 0)) l) H (loopQ 220 slices_symMergeCmpFunc_int_P1 0 N Qx Qr) = slices_symMergeCmpFunc_int_L1 l H N Qx Qr := by kernel_rfl
theorem slices_symMergeCmpFunc_int_L1_ind (I : Nat → List Value → Heap → Prop) (Qx : Nat → List Value → Heap → Prop) (Qr : List Value → Heap → Prop) (hs : ∀ k l H, I k l H → slices_symMergeCmpFunc_int_L1 l H (fun l H => ∃ k', k' < k ∧ I k' l H) Qx Qr) (k : Nat) (l : List Value) (H : Heap) (h : I k l H) : wLoop P true 220 slices_symMergeCmpFunc_int_P1 0 l H Qx Qr :=
  loop_ind (by kernel_rfl) I (fun k l H h => (slices_symMergeCmpFunc_int_L1_eq l H _ Qx Qr).mpr (hs k l H h)) k l H h

/-- loop 2: goes on from the slots [0, 2, 4, 14, 15]; leaves [0, 2, 14] -/
def slices_symMergeCmpFunc_int_L2 (l : List Value) (H : Heap) (N : List Value → Heap → Prop) (Qx : Nat → List Value → Heap → Prop) (Qr : List Value → Heap → Prop) : Prop :=
opP ((binC P .lss 3 false).f (nth l 3) (nth l 4)) fun t85 =>
wIf t85 (
opP ((binC P .add 3 false).f (nth l 3) (nth l 4)) fun t88 =>
opW (cvInt .u64 t88 H) fun t89 H3 =>
opP ((binC P .shr 61 true).f t89 (.int .u64 1)) fun t90 =>
opW (cvInt .i64 t90 H3) fun t91 H6 =>
opP (idxSl 1 (nth l 0) (nth l 1)) fun t95 =>
opW (loadOne t95 H6) fun t96 H9 =>
opP (idxSl 1 (nth l 0) t91) fun t99 =>
opW (loadOne t99 H9) fun t100 H12 =>
wTgt P (callee1 (nth l 2) [t96, t100]) H12 fun t101 H14 =>
opP ((binC P .lss 3 true).f t101 (.int .i64 0)) fun t102 =>
opP (unA .not t102) fun t103 =>
wIf t103 (
opP ((binC P .add 3 true).f t91 (.int .i64 1)) fun t105 =>
N [(nth l 0), (nth l 1), (nth l 2), t105, (nth l 4)] H14) (
N [(nth l 0), (nth l 1), (nth l 2), (nth l 3), t91] H14)) (
Qx 4 [(nth l 0), (nth l 1), (nth l 3)] H)
theorem slices_symMergeCmpFunc_int_L2_eq (l : List Value) (H : Heap) (N : List Value → Heap → Prop) (Qx : Nat → List Value → Heap → Prop) (Qr : List Value → Heap → Prop) : vcC P true 220 slices_symMergeCmpFunc_int_P2 (live slices_symMergeCmpFunc_int_P2 0 16389) 16389 (envOf (bits 220 (live slices_symMergeCmpFunc_int_P2 0 16389)) l) H (loopQ 220 slices_symMergeCmpFunc_int_P2 16389 N Qx Qr) = slices_symMergeCmpFunc_int_L2 l H N Qx Qr := by kernel_rfl
theorem slices_symMergeCmpFunc_int_L2_ind (I : Nat → List Value → Heap → Prop) (Qx : Nat → List Value → Heap → Prop) (Qr : List Value → Heap → Prop) (hs : ∀ k l H, I k l H → slices_symMergeCmpFunc_int_L2 l H (fun l H => ∃ k', k' < k ∧ I k' l H) Qx Qr) (k : Nat) (l : List Value) (H : Heap) (h : I k l H) : wLoop P true 220 slices_symMergeCmpFunc_int_P2 16389 l H Qx Qr :=
  loop_ind (by kernel_rfl) I (fun k l H h => (slices_symMergeCmpFunc_int_L2_eq l H _ Qx Qr).mpr (hs k l H h)) k l H h

/-- loop 3: goes on from the slots [0, 14, 17]; leaves [] -/
def slices_symMergeCmpFunc_int_L3 (l : List Value) (H : Heap) (N : List Value → Heap → Prop) (Qx : Nat → List Value → Heap → Prop) (Qr : List Value → Heap → Prop) : Prop :=
opP ((binC P .gtr 3 false).f (nth l 2) (nth l 1)) fun t110 =>
wIf t110 (
opP ((binC P .sub 3 true).f (nth l 2) (.int .i64 1)) fun t117 =>
opP ((binC P .sub 3 true).f (nth l 2) (.int .i64 1)) fun t120 =>
opP (idxSl 1 (nth l 0) t120) fun t121 =>
opW (loadOne t121 H) fun t122 H5 =>
opP (idxSl 1 (nth l 0) (nth l 2)) fun t125 =>
opW (loadOne t125 H5) fun t126 H8 =>
opP (idxSl 1 (nth l 0) (nth l 2)) fun t127 =>
opW (storeTo 1 t127 t122 H8) fun u H11 =>
opP (idxSl 1 (nth l 0) t117) fun t128 =>
opW (storeTo 1 t128 t126 H11) fun u_1 H14 =>
opP ((binC P .sub 3 true).f (nth l 2) (.int .i64 1)) fun t112 =>
N [(nth l 0), (nth l 1), t112] H14) (
Qx 6 [] H)
theorem slices_symMergeCmpFunc_int_L3_eq (l : List Value) (H : Heap) (N : List Value → Heap → Prop) (Qx : Nat → List Value → Heap → Prop) (Qr : List Value → Heap → Prop) : vcC P true 220 slices_symMergeCmpFunc_int_P3 (live slices_symMergeCmpFunc_int_P3 0 0) 0 (envOf (bits 220 (live slices_symMergeCmpFunc_int_P3 0 0)) l) H (loopQ 220 slices_symMergeCmpFunc_int_P3 0 N Qx Qr) = slices_symMergeCmpFunc_int_L3 l H N Qx Qr := by kernel_rfl
theorem slices_symMergeCmpFunc_int_L3_ind (I : Nat → List Value → Heap → Prop) (Qx : Nat → List Value → Heap → Prop) (Qr : List Value → Heap → Prop) (hs : ∀ k l H, I k l H → slices_symMergeCmpFunc_int_L3 l H (fun l H => ∃ k', k' < k ∧ I k' l H) Qx Qr) (k : Nat) (l : List Value) (H : Heap) (h : I k l H) : wLoop P true 220 slices_symMergeCmpFunc_int_P3 0 l H Qx Qr :=
  loop_ind (by kernel_rfl) I (fun k l H h => (slices_symMergeCmpFunc_int_L3_eq l H _ Qx Qr).mpr (hs k l H h)) k l H h

/-- loop 4: goes on from the slots [0, 1, 2, 3, 4, 18, 19, 20, 21, 22]; leaves [0, 1, 2, 3, 4, 18, 19, 20] -/
def slices_symMergeCmpFunc_int_L4 (l : List Value) (H : Heap) (N : List Value → Heap → Prop) (Qx : Nat → List Value → Heap → Prop) (Qr : List Value → Heap → Prop) : Prop :=
opP ((binC P .lss 3 false).f (nth l 7) (nth l 8)) fun t151 =>
wIf t151 (
opP ((binC P .add 3 false).f (nth l 7) (nth l 8)) fun t154 =>
opW (cvInt .u64 t154 H) fun t155 H3 =>
opP ((binC P .shr 61 true).f t155 (.int .u64 1)) fun t156 =>
opW (cvInt .i64 t156 H3) fun t157 H6 =>
opP ((binC P .sub 3 false).f (nth l 9) t157) fun t162 =>
opP (idxSl 1 (nth l 0) t162) fun t163 =>
opW (loadOne t163 H6) fun t164 H10 =>
opP (idxSl 1 (nth l 0) t157) fun t167 =>
opW (loadOne t167 H10) fun t168 H13 =>
wTgt P (callee1 (nth l 4) [t164, t168]) H13 fun t169 H15 =>
opP ((binC P .lss 3 true).f t169 (.int .i64 0)) fun t170 =>
opP (unA .not t170) fun t171 =>
wIf t171 (
opP ((binC P .add 3 true).f t157 (.int .i64 1)) fun t173 =>
N [(nth l 0), (nth l 1), (nth l 2), (nth l 3), (nth l 4), (nth l 5), (nth l 6), t173, (nth l 8), (nth l 9)] H15) (
N [(nth l 0), (nth l 1), (nth l 2), (nth l 3), (nth l 4), (nth l 5), (nth l 6), (nth l 7), t157, (nth l 9)] H15)) (
Qx 8 [(nth l 0), (nth l 1), (nth l 2), (nth l 3), (nth l 4), (nth l 5), (nth l 6), (nth l 7)] H)
theorem slices_symMergeCmpFunc_int_L4_eq (l : List Value) (H : Heap) (N : List Value → Heap → Prop) (Qx : Nat → List Value → Heap → Prop) (Qr : List Value → Heap → Prop) : vcC P true 220 slices_symMergeCmpFunc_int_P4 (live slices_symMergeCmpFunc_int_P4 0 1835039) 1835039 (envOf (bits 220 (live slices_symMergeCmpFunc_int_P4 0 1835039)) l) H (loopQ 220 slices_symMergeCmpFunc_int_P4 1835039 N Qx Qr) = slices_symMergeCmpFunc_int_L4 l H N Qx Qr := by kernel_rfl
theorem slices_symMergeCmpFunc_int_L4_ind (I : Nat → List Value → Heap → Prop) (Qx : Nat → List Value → Heap → Prop) (Qr : List Value → Heap → Prop) (hs : ∀ k l H, I k l H → slices_symMergeCmpFunc_int_L4 l H (fun l H => ∃ k', k' < k ∧ I k' l H) Qx Qr) (k : Nat) (l : List Value) (H : Heap) (h : I k l H) : wLoop P true 220 slices_symMergeCmpFunc_int_P4 1835039 l H Qx Qr :=
  loop_ind (by kernel_rfl) I (fun k l H h => (slices_symMergeCmpFunc_int_L4_eq l H _ Qx Qr).mpr (hs k l H h)) k l H h
def slices_symMergeCmpFunc_int (t0 t1 t2 t3 t4 : Value) (H : Heap) (K : Value → Heap → Prop) : Prop :=
opP ((binC P .sub 3 false).f t2 t1) fun t27 =>
opP ((binC P .eql 3 true).f t27 (.int .i64 1)) fun t28 =>
wIf t28 (
wLoop P true 220 slices_symMergeCmpFunc_int_P0 1027 [t0, t1, t4, t2, t3] H (fun id l H3 =>
cond (Nat.beq id 0) (
wLoop P true 220 slices_symMergeCmpFunc_int_P1 0 [(nth l 0), (nth l 2), (nth l 1)] H3 (fun id l_1 H5 =>
cond (Nat.beq id 2) (
K (.tuple [].toArray) H5) (
False)) (fun l_1 H5 =>
K (.tuple [].toArray) H5)) (
False)) (fun l H3 =>
K (.tuple [].toArray) H3)) (
opP ((binC P .sub 3 false).f t3 t2) fun t79 =>
opP ((binC P .eql 3 true).f t79 (.int .i64 1)) fun t80 =>
wIf t80 (
wLoop P true 220 slices_symMergeCmpFunc_int_P2 16389 [t0, t2, t4, t1, t2] H (fun id l_2 H9 =>
cond (Nat.beq id 4) (
wLoop P true 220 slices_symMergeCmpFunc_int_P3 0 [(nth l_2 0), (nth l_2 2), (nth l_2 1)] H9 (fun id l_3 H11 =>
cond (Nat.beq id 6) (
K (.tuple [].toArray) H11) (
False)) (fun l_3 H11 =>
K (.tuple [].toArray) H11)) (
False)) (fun l_2 H9 =>
K (.tuple [].toArray) H9)) (
opP ((binC P .add 3 false).f t1 t3) fun t131 =>
opW (cvInt .u64 t131 H) fun t132 H14 =>
opP ((binC P .shr 61 true).f t132 (.int .u64 1)) fun t133 =>
opW (cvInt .i64 t133 H14) fun t134 H17 =>
opP ((binC P .add 3 false).f t134 t2) fun t137 =>
wJoin (fun J =>
opP ((binC P .gtr 3 false).f t2 t134) fun t140 =>
wIf t140 (
opP ((binC P .sub 3 false).f t137 t3) fun t143 =>
J [t0, t1, t2, t3, t4, t134, t137, t143, t134] H17) (
J [t0, t1, t2, t3, t4, t134, t137, t1, t2] H17)) (fun l_4 H23 =>
opP ((binC P .sub 3 true).f (nth l_4 6) (.int .i64 1)) fun t148 =>
wLoop P true 220 slices_symMergeCmpFunc_int_P4 1835039 [(nth l_4 0), (nth l_4 1), (nth l_4 2), (nth l_4 3), (nth l_4 4), (nth l_4 5), (nth l_4 6), (nth l_4 7), (nth l_4 8), t148] H23 (fun id l_5 H26 =>
cond (Nat.beq id 8) (
opP ((binC P .sub 3 false).f (nth l_5 6) (nth l_5 7)) fun t177 =>
wJoin (fun J_1 =>
wJoin (fun J_2 =>
opP ((binC P .lss 3 false).f (nth l_5 7) (nth l_5 2)) fun t180 =>
wIf t180 (
opP ((binC P .lss 3 false).f (nth l_5 2) t177) fun t184 =>
opP (pickA t180 t184 (.bool false)) fun t185 =>
J_2 [(nth l_5 0), (nth l_5 1), (nth l_5 2), (nth l_5 3), (nth l_5 4), (nth l_5 5), (nth l_5 7), t177, t185] H26) (
opP (pickA t180 undef (.bool false)) fun t185_1 =>
J_2 [(nth l_5 0), (nth l_5 1), (nth l_5 2), (nth l_5 3), (nth l_5 4), (nth l_5 5), (nth l_5 7), t177, t185_1] H26)) (fun l_6 H35 =>
wIf (nth l_6 8) (
wCall P n_slices_rotateCmpFunc_int [(nth l_6 0), (nth l_6 6), (nth l_6 2), (nth l_6 7), (nth l_6 4)] H35 fun t191 H37 =>
J_1 [(nth l_6 0), (nth l_6 1), (nth l_6 3), (nth l_6 4), (nth l_6 5), (nth l_6 6), (nth l_6 7)] H37) (
J_1 [(nth l_6 0), (nth l_6 1), (nth l_6 3), (nth l_6 4), (nth l_6 5), (nth l_6 6), (nth l_6 7)] H35))) (fun l_7 H39 =>
wJoin (fun J_3 =>
wJoin (fun J_4 =>
opP ((binC P .lss 3 false).f (nth l_7 1) (nth l_7 5)) fun t194 =>
wIf t194 (
opP ((binC P .lss 3 false).f (nth l_7 5) (nth l_7 4)) fun t198 =>
opP (pickA t194 t198 (.bool false)) fun t199 =>
J_4 [(nth l_7 0), (nth l_7 1), (nth l_7 2), (nth l_7 3), (nth l_7 4), (nth l_7 5), (nth l_7 6), t199] H39) (
opP (pickA t194 undef (.bool false)) fun t199_1 =>
J_4 [(nth l_7 0), (nth l_7 1), (nth l_7 2), (nth l_7 3), (nth l_7 4), (nth l_7 5), (nth l_7 6), t199_1] H39)) (fun l_8 H47 =>
wIf (nth l_8 7) (
wCall P n_slices_symMergeCmpFunc_int [(nth l_8 0), (nth l_8 1), (nth l_8 5), (nth l_8 4), (nth l_8 3)] H47 fun t205 H49 =>
J_3 [(nth l_8 0), (nth l_8 2), (nth l_8 3), (nth l_8 4), (nth l_8 6)] H49) (
J_3 [(nth l_8 0), (nth l_8 2), (nth l_8 3), (nth l_8 4), (nth l_8 6)] H47))) (fun l_9 H51 =>
wJoin (fun J_5 =>
opP ((binC P .lss 3 false).f (nth l_9 3) (nth l_9 4)) fun t208 =>
wIf t208 (
opP ((binC P .lss 3 false).f (nth l_9 4) (nth l_9 1)) fun t212 =>
opP (pickA t208 t212 (.bool false)) fun t213 =>
J_5 [(nth l_9 0), (nth l_9 1), (nth l_9 2), (nth l_9 3), (nth l_9 4), t213] H51) (
opP (pickA t208 undef (.bool false)) fun t213_1 =>
J_5 [(nth l_9 0), (nth l_9 1), (nth l_9 2), (nth l_9 3), (nth l_9 4), t213_1] H51)) (fun l_10 H58 =>
wIf (nth l_10 5) (
wCall P n_slices_symMergeCmpFunc_int [(nth l_10 0), (nth l_10 3), (nth l_10 4), (nth l_10 1), (nth l_10 2)] H58 fun t219 H60 =>
K (.tuple [].toArray) H60) (
K (.tuple [].toArray) H58))))) (
False)) (fun l_5 H26 =>
K (.tuple [].toArray) H26))))
theorem slices_symMergeCmpFunc_int_eq (t0 t1 t2 t3 t4 : Value) (H : Heap) (K : Value → Heap → Prop) : vcF P n_slices_symMergeCmpFunc_int [t0, t1, t2, t3, t4] H K = slices_symMergeCmpFunc_int t0 t1 t2 t3 t4 H K := by kernel_rfl
theorem slices_symMergeCmpFunc_int_ok {t0 t1 t2 t3 t4 : Value} {H : Heap} {K : Value → Heap → Prop} (h : slices_symMergeCmpFunc_int t0 t1 t2 t3 t4 H K) : wCall P n_slices_symMergeCmpFunc_int [t0, t1, t2, t3, t4] H K := wCall_of_vcF rfl ((slices_symMergeCmpFunc_int_eq t0 t1 t2 t3 t4 H K).mpr h)

/-! slices.rotateCmpFunc[int] -/
noncomputable abbrev slices_rotateCmpFunc_int_P0 : Code := loopAt P n_slices_rotateCmpFunc_int 0
/-- loop 0: goes on from the slots [0, 2, 4, 10, 11]; leaves [0, 2, 4, 10] -/
def slices_rotateCmpFunc_int_L0 (l : List Value) (H : Heap) (N : List Value → Heap → Prop) (Qx : Nat → List Value → Heap → Prop) (Qr : List Value → Heap → Prop) : Prop :=
opP ((binC P .neq 3 false).f (nth l 3) (nth l 4)) fun t20 =>
wIf t20 (
opP ((binC P .gtr 3 false).f (nth l 3) (nth l 4)) fun t23 =>
wIf t23 (
opP ((binC P .sub 3 false).f (nth l 1) (nth l 3)) fun t27 =>
wCall P n_slices_swapRangeCmpFunc_int [(nth l 0), t27, (nth l 1), (nth l 4), (nth l 2)] H fun t31 H4 =>
opP ((binC P .sub 3 false).f (nth l 3) (nth l 4)) fun t34 =>
N [(nth l 0), (nth l 1), (nth l 2), t34, (nth l 4)] H4) (
opP ((binC P .sub 3 false).f (nth l 1) (nth l 3)) fun t38 =>
opP ((binC P .add 3 false).f (nth l 1) (nth l 4)) fun t41 =>
opP ((binC P .sub 3 false).f t41 (nth l 3)) fun t43 =>
wCall P n_slices_swapRangeCmpFunc_int [(nth l 0), t38, t43, (nth l 3), (nth l 2)] H fun t46 H10 =>
opP ((binC P .sub 3 false).f (nth l 4) (nth l 3)) fun t49 =>
N [(nth l 0), (nth l 1), (nth l 2), (nth l 3), t49] H10)) (
Qx 0 [(nth l 0), (nth l 1), (nth l 2), (nth l 3)] H)
theorem slices_rotateCmpFunc_int_L0_eq (l : List Value) (H : Heap) (N : List Value → Heap → Prop) (Qx : Nat → List Value → Heap → Prop) (Qr : List Value → Heap → Prop) : vcC P true 58 slices_rotateCmpFunc_int_P0 (live slices_rotateCmpFunc_int_P0 0 1045) 1045 (envOf (bits 58 (live slices_rotateCmpFunc_int_P0 0 1045)) l) H (loopQ 58 slices_rotateCmpFunc_int_P0 1045 N Qx Qr) = slices_rotateCmpFunc_int_L0 l H N Qx Qr := by kernel_rfl
theorem slices_rotateCmpFunc_int_L0_ind (I : Nat → List Value → Heap → Prop) (Qx : Nat → List Value → Heap → Prop) (Qr : List Value → Heap → Prop) (hs : ∀ k l H, I k l H → slices_rotateCmpFunc_int_L0 l H (fun l H => ∃ k', k' < k ∧ I k' l H) Qx Qr) (k : Nat) (l : List Value) (H : Heap) (h : I k l H) : wLoop P true 58 slices_rotateCmpFunc_int_P0 1045 l H Qx Qr :=
  loop_ind (by kernel_rfl) I (fun k l H h => (slices_rotateCmpFunc_int_L0_eq l H _ Qx Qr).mpr (hs k l H h)) k l H h
def slices_rotateCmpFunc_int (t0 t1 t2 t3 t4 : Value) (H : Heap) (K : Value → Heap → Prop) : Prop :=
opP ((binC P .sub 3 false).f t2 t1) fun t14 =>
opP ((binC P .sub 3 false).f t3 t2) fun t17 =>
wLoop P true 58 slices_rotateCmpFunc_int_P0 1045 [t0, t2, t4, t14, t17] H (fun id l H3 =>
cond (Nat.beq id 0) (
opP ((binC P .sub 3 false).f (nth l 1) (nth l 3)) fun t53 =>
wCall P n_slices_swapRangeCmpFunc_int [(nth l 0), t53, (nth l 1), (nth l 3), (nth l 2)] H3 fun t57 H6 =>
K (.tuple [].toArray) H6) (
False)) (fun l H3 =>
K (.tuple [].toArray) H3)
theorem slices_rotateCmpFunc_int_eq (t0 t1 t2 t3 t4 : Value) (H : Heap) (K : Value → Heap → Prop) : vcF P n_slices_rotateCmpFunc_int [t0, t1, t2, t3, t4] H K = slices_rotateCmpFunc_int t0 t1 t2 t3 t4 H K := by kernel_rfl
theorem slices_rotateCmpFunc_int_ok {t0 t1 t2 t3 t4 : Value} {H : Heap} {K : Value → Heap → Prop} (h : slices_rotateCmpFunc_int t0 t1 t2 t3 t4 H K) : wCall P n_slices_rotateCmpFunc_int [t0, t1, t2, t3, t4] H K := wCall_of_vcF rfl ((slices_rotateCmpFunc_int_eq t0 t1 t2 t3 t4 H K).mpr h)

/-! slices.swapRangeCmpFunc[int] -/
noncomputable abbrev slices_swapRangeCmpFunc_int_P0 : Code := loopAt P n_slices_swapRangeCmpFunc_int 0
/-- loop 0: goes on from the slots [0, 1, 2, 3, 10]; leaves [] -/
def slices_swapRangeCmpFunc_int_L0 (l : List Value) (H : Heap) (N : List Value → Heap → Prop) (Qx : Nat → List Value → Heap → Prop) (Qr : List Value → Heap → Prop) : Prop :=
opP ((binC P .lss 3 false).f (nth l 4) (nth l 3)) fun t13 =>
wIf t13 (
opP ((binC P .add 3 false).f (nth l 1) (nth l 4)) fun t19 =>
opP ((binC P .add 3 false).f (nth l 2) (nth l 4)) fun t23 =>
opP ((binC P .add 3 false).f (nth l 2) (nth l 4)) fun t27 =>
opP (idxSl 1 (nth l 0) t27) fun t28 =>
opW (loadOne t28 H) fun t29 H6 =>
opP ((binC P .add 3 false).f (nth l 1) (nth l 4)) fun t33 =>
opP (idxSl 1 (nth l 0) t33) fun t34 =>
opW (loadOne t34 H6) fun t35 H10 =>
opP (idxSl 1 (nth l 0) t19) fun t36 =>
opW (storeTo 1 t36 t29 H10) fun u H13 =>
opP (idxSl 1 (nth l 0) t23) fun t37 =>
opW (storeTo 1 t37 t35 H13) fun u_1 H16 =>
opP ((binC P .add 3 true).f (nth l 4) (.int .i64 1)) fun t15 =>
N [(nth l 0), (nth l 1), (nth l 2), (nth l 3), t15] H16) (
Qx 0 [] H)
theorem slices_swapRangeCmpFunc_int_L0_eq (l : List Value) (H : Heap) (N : List Value → Heap → Prop) (Qx : Nat → List Value → Heap → Prop) (Qr : List Value → Heap → Prop) : vcC P true 38 slices_swapRangeCmpFunc_int_P0 (live slices_swapRangeCmpFunc_int_P0 0 0) 0 (envOf (bits 38 (live slices_swapRangeCmpFunc_int_P0 0 0)) l) H (loopQ 38 slices_swapRangeCmpFunc_int_P0 0 N Qx Qr) = slices_swapRangeCmpFunc_int_L0 l H N Qx Qr := by kernel_rfl
theorem slices_swapRangeCmpFunc_int_L0_ind (I : Nat → List Value → Heap → Prop) (Qx : Nat → List Value → Heap → Prop) (Qr : List Value → Heap → Prop) (hs : ∀ k l H, I k l H → slices_swapRangeCmpFunc_int_L0 l H (fun l H => ∃ k', k' < k ∧ I k' l H) Qx Qr) (k : Nat) (l : List Value) (H : Heap) (h : I k l H) : wLoop P true 38 slices_swapRangeCmpFunc_int_P0 0 l H Qx Qr :=
  loop_ind (by kernel_rfl) I (fun k l H h => (slices_swapRangeCmpFunc_int_L0_eq l H _ Qx Qr).mpr (hs k l H h)) k l H h
def slices_swapRangeCmpFunc_int (t0 t1 t2 t3 t4 : Value) (H : Heap) (K : Value → Heap → Prop) : Prop :=
wLoop P true 38 slices_swapRangeCmpFunc_int_P0 0 [t0, t1, t2, t3, (.int .i64 0)] H (fun id l H1 =>
cond (Nat.beq id 0) (
K (.tuple [].toArray) H1) (
False)) (fun l H1 =>
K (.tuple [].toArray) H1)
theorem slices_swapRangeCmpFunc_int_eq (t0 t1 t2 t3 t4 : Value) (H : Heap) (K : Value → Heap → Prop) : vcF P n_slices_swapRangeCmpFunc_int [t0, t1, t2, t3, t4] H K = slices_swapRangeCmpFunc_int t0 t1 t2 t3 t4 H K := by kernel_rfl
theorem slices_swapRangeCmpFunc_int_ok {t0 t1 t2 t3 t4 : Value} {H : Heap} {K : Value → Heap → Prop} (h : slices_swapRangeCmpFunc_int t0 t1 t2 t3 t4 H K) : wCall P n_slices_swapRangeCmpFunc_int [t0, t1, t2, t3, t4] H K := wCall_of_vcF rfl ((slices_swapRangeCmpFunc_int_eq t0 t1 t2 t3 t4 H K).mpr h)

end
end W
