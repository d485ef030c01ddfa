/-
  DaemonNames returns true, whatever its arguments, where the listed tables of Go's library stand as the row lists them.
-/
import Derived.Test.YtdiimfnakedaoaaGreatDoorRows
import Derived.Test.YtdiimfnakedaoaaGreatDoorCards
import Derived.Test.YtdiimfnakedaoaaGreatDoorTie
import Derived.Lay
import Derived.LaidOnce
import Derived.SevenTiedAt
import Derived.Test.YtdiimfnakedaoaaGreatDoorUF
namespace Go.Proofs.YtdiimfnakedaoaaGreatDoor.daemonNames
open Go.ChangeShapes Go.WideShapes Go.ChangeAt Go.RowKit Go.Lib
set_option linter.unusedVariables false

theorem own : ownKnob Tryz.prog.godebug = none := by kernel_rfl

set_option maxRecDepth 100000 in
theorem good : Ab.goodB Tryz.prog = true := by kernel_rfl
set_option maxRecDepth 100000 in
theorem laid : laidOutB Tryz.prog = true := by kernel_rfl
set_option maxRecDepth 100000 in
theorem sup : (Tryz.f3.params.toList.all fun t => Ab.supB Tryz.prog 20 t) = true := by kernel_rfl
set_option maxRecDepth 100000 in
theorem rdb : (Tryz.f3.params.toList.all fun t => Tryz.prog.readableRec t && Nat.blt t Tryz.prog.types.size) = true := by kernel_rfl
theorem rdb' : ∀ t ∈ Tryz.f3.params.toList, Tryz.prog.readableRec t = true ∧ t < Tryz.prog.types.size := fun t ht => by
  have := List.all_eq_true.1 rdb t ht
  rw [Bool.and_eq_true, Ab.blt_eq] at this
  exact ⟨this.1, of_decide_eq_true this.2⟩

theorem law_call {H0 : Type} {W : World} (tabs : Seal.Tabs2 W) {enc : TypeId × Value → H0} (args : Array Value) {ds : List (DataW H0)} {p : List MemPlace} (hA : DataW.TrodAll enc Tryz.prog W 0 (fun _ => true) true Tryz.f3.params.toList args.toList ds p) : Calls Tryz.prog 3 args W fun e w' => e = .returned (.bool true) ∧ RowKit.Below W.heap.size W w' := by
  rw [Tryz.params3] at hA
  obtain ⟨rfl, _, _⟩ := trodAll_none hA
  exact J.law_true tabs

set_option maxRecDepth 100000 in
theorem lifted (os : Os) (started : os.Started) (H : Type) (enc : TypeId × Value → H) :
    ReturnsInHanded {} Tryz.checked os 3 .any (fun w args => (Rows.daemonNamesSpec.pre enc Tryz.prog Tryz.f3 [] false w args ∧ laidMetH Tryz.prog Rows.daemonNamesRow.laid w) ∧ sizedMet enc Tryz.prog Tryz.f3 (OpenSpec.ofChange Rows.daemonNamesSpec) false w args)
      (Rows.daemonNamesSpec.post enc Tryz.prog Tryz.f3 false true false false) := by
  refine returnsInHanded_of_change_and (C := Tryz.checked) (X := fun w _ => laidMetH Tryz.prog Rows.daemonNamesRow.laid w) (fun _ _ _ hh h => h.of_heap hh) own started (by kernel_rfl) Tryz.func3
    (ChangeSpec.witness_shaped (enc := enc) (C := Tryz.checked) (os := os) (X := fun w _ => laidMetH Tryz.prog Rows.daemonNamesRow.laid w) false (World.laidAll Tryz.prog os Rows.daemonNamesRow.laid) #[] 8 (World.laidAll_os _ _ _)
      (World.shaped_of_ZipB (by kernel_rfl) (by kernel_rfl)) (by kernel_rfl) (by kernel_rfl) (by kernel_rfl)
      (by rw [MakeChecks.laidMetH_plain _ _ _ (by kernel_rfl)]; exact laidMet_laidAll _ (by kernel_rfl) (by kernel_rfl))) ?_
  intro W base args ds gs before hval0 hW _ _ hL _
  have hW' := hW
  obtain ⟨p, q, hA, hV, rfl, hfz, hnd⟩ := hW
  obtain ⟨rfl, rfl⟩ := trodVars_none hV
  have hlen := Ab.trodAll_len hA
  rw [MakeChecks.laidMetH_plain _ _ _ (by kernel_rfl)] at hL
  have tabs := Seal.tabs2_of_reads (Lib.laidMet.reads hL (.head _)) (Lib.laidMet.reads hL (.tail _ (.head _))) (Lib.laidMet.reads hL (.tail _ (.tail _ (.head _)))) (Lib.laidMet.reads hL (.tail _ (.tail _ (.tail _ (.head _))))) (Lib.laidMet.reads hL (.tail _ (.tail _ (.tail _ (.tail _ (.head _)))))) (Lib.laidMet.reads hL (.tail _ (.tail _ (.tail _ (.tail _ (.tail _ (.head _)))))))

  refine (law_call tabs args hA).mono fun e W' ⟨he, hg⟩ => ?_
  subst he
  obtain rfl : ds = [] := by
    have hlen : ds.length = 0 := by rw [Tryz.params3] at hlen; exact hlen
    exact List.length_eq_zero_iff.1 hlen
  exact ⟨_, rfl, Ab.post_law laid rdb' rfl hW' hg (fun _ _ _ => (trodAll_cons_mk (shut_bool Tryz.underlying4 _) trodAll_mk0)) rfl rfl⟩

set_option maxRecDepth 100000
abbrev factR := Rows.daemonNamesRow
noncomputable abbrev factQ : Program := Tryz.prog
noncomputable abbrev factA : List TypeId := Tryz.f3.params.toList ++ Rows.daemonNamesSpec.plain.varTypes factQ
noncomputable abbrev factB : List TypeId := factA ++ Tryz.f3.resultTypes.toList
theorem fact00 : (factR.wf (OpenSpec.ofChange Rows.daemonNamesSpec)) = true ∧ (laidOutB factQ) = true := ⟨by kernel_rfl, by kernel_rfl⟩
theorem fact01 : (mapsRowed factQ) = true := by kernel_rfl
theorem fact02 : (Tryz.f3.params.all (factQ.readableRec ·)) = true ∧ (namedTie factQ factR.named Rows.daemonNamesSpec.vars) = true ∧ ((factR.stops == [])) = true ∧ ((factQ.stops == [])) = true ∧ ((factR.knobs == [])) = true ∧ ((factQ.stopKnobs == [])) = true := ⟨by kernel_rfl, by kernel_rfl, by kernel_rfl, by kernel_rfl, by kernel_rfl, by kernel_rfl⟩
theorem fact03 : ((factR.inPlace == factQ.inPlace 3)) = true := by kernel_rfl
theorem fact04 : ((factR.unfollowed == factQ.unfollowed 3)) = true := by kernel_rfl
theorem fact05 : ((factR.recurses == factQ.recurses 3)) = true := by kernel_rfl
theorem fact06 : ((factR.named == factQ.varsNamed 3)) = true := by kernel_rfl
theorem fact07 : ((factR.maps == (factA).any (factQ.mapsRec ·))) = true ∧ ((factR.ifaces == (factA).any (factQ.ifacesRec ·))) = true ∧ ((factR.mapsOut == factQ.mapsAmong Tryz.f3.resultTypes.toList)) = true ∧ ((factR.loops == (factA).any (factQ.loopsFrom ·))) = true := ⟨by kernel_rfl, by kernel_rfl, by kernel_rfl, by kernel_rfl⟩
theorem fact08 : ((factR.wideKeys == (factB).any (factQ.wideKeysFrom ·))) = true ∧ (Rows.daemonNamesSpec.vars.all (factQ.varReadable ·)) = true ∧ (Tryz.f3.resultTypes.all (fun t => factQ.readableRec t && decide (t < factQ.types.size))) = true ∧ ((factR.ifacesOut == Tryz.f3.resultTypes.toList.any (factQ.ifacesRec ·))) = true := ⟨by kernel_rfl, by kernel_rfl, by kernel_rfl, by kernel_rfl⟩
theorem fact09 : ((factR.loopsOut == Tryz.f3.resultTypes.toList.any (factQ.loopsFrom ·))) = true ∧ ((factR.plainKeys == factQ.plainKeys)) = true ∧ (factR.shortTexts.isNone) = true := ⟨by kernel_rfl, by kernel_rfl, by kernel_rfl⟩
theorem fact10 : (factQ.stopsHeard) = true ∧ (factQ.mayEnter) = true := ⟨by kernel_rfl, by kernel_rfl⟩
theorem fact11 : ((factR.lifted == factQ.liftsFinal)) = true := by kernel_rfl
theorem fact12 : ((factQ.make == some factR.make)) = true ∧ ((factR.kinds == (if factR.domain.isEmpty then [] else Tryz.f3.params.toList.map fun t => match factQ.underlying t with | some (.int k) => some k | _ => none))) = true ∧ ((factR.pinned == factR.pinnedBy)) = true := ⟨by kernel_rfl, by kernel_rfl, by kernel_rfl⟩
theorem fact13 : ((factR.veiled == (factB).any (factQ.veiledRec ·))) = true ∧ (factR.veiledFits factQ Tryz.f3.params.toList (factB)) = true := ⟨by kernel_rfl, by kernel_rfl⟩
theorem factAnd {a b : Bool} (h : a = true) (g : b = true) : (a && b) = true := by rw [h, g]; rfl
theorem factAll : joinedFacts Tryz.prog 3 Tryz.f3 Rows.daemonNamesSpec Rows.daemonNamesRow = true := (factAnd (factAnd (factAnd (factAnd (factAnd (factAnd (factAnd (factAnd (factAnd (factAnd (factAnd (factAnd (factAnd (factAnd (factAnd (factAnd (factAnd (factAnd (factAnd (factAnd (factAnd (factAnd (factAnd (factAnd (factAnd (factAnd (factAnd (factAnd (factAnd (factAnd (factAnd fact00.1 fact00.2) fact01) fact02.1) fact02.2.1) fact02.2.2.1) fact02.2.2.2.1) fact02.2.2.2.2.1) fact02.2.2.2.2.2) fact03) fact04) fact05) fact06) fact07.1) fact07.2.1) fact07.2.2.1) fact07.2.2.2) fact08.1) fact08.2.1) fact08.2.2.1) fact08.2.2.2) fact09.1) fact09.2.1) fact09.2.2) fact10.1) fact10.2) fact11) fact12.1) fact12.2.1) fact12.2.2) fact13.1) fact13.2)

theorem over : Rows.DaemonNamesSaid :=
  OpenClaim.holds_of_wide 3 Tryz.f3 rfl rfl rfl rfl rfl rfl rfl ⟨rfl, rfl, rfl, rfl, rfl⟩ rfl rfl rfl rfl rfl (by kernel_rfl) Tryz.func3 factAll
    (of_decide_eq_true (by kernel_rfl)) (by unfold Func.isWrapper; first | (rw [if_pos (by decide +kernel)]; kernel_rfl) | (rw [if_neg (by decide +kernel)]; exact ⟨rfl, rfl⟩))
    (fun os started H enc _ => lifted os started H enc)

theorem proved : Rows.DaemonNamesCardSaid :=
  Claim7.holds_tied_plain_at .later [] Rows.daemonNamesCard.laidKinds true Rows.daemonNamesCard.stood.harness Rows.daemonNamesCard.stood.looks over (fun _ h => by cases h) (by kernel_rfl) (fun _ h => by cases h) daemonNames_row_tie rfl ⟨rfl, rfl⟩ (by kernel_rfl) rfl
    (fun f fn hf hfn => by
      obtain rfl : f = 3 := Option.some.inj ((show Tryz.prog.funcNamed Rows.daemonNamesRow.func = some 3 by kernel_rfl).symm.trans hf) |>.symm
      obtain rfl : fn = Tryz.f3 := (Option.some.inj (Tryz.func3.symm.trans hfn)).symm
      exact ⟨by kernel_rfl, fun j t ht => by
        rw [Tryz.params3] at ht
        simp at ht⟩)
    (by kernel_rfl)
end Go.Proofs.YtdiimfnakedaoaaGreatDoor.daemonNames
