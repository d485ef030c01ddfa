/-
  PipeNames returns true, whatever its arguments, where the listed tables of Go's library stand as the row lists them: its code is walked in a verified interpreter over abstract memory (the texts Ab..), function by function; the library's predicates on runes by the kit's contracts.
-/
import Derived.Test.YtifflnhooaophaaGreatDoorRows
import Derived.Test.YtifflnhooaophaaGreatDoorCards
import Derived.Test.YtifflnhooaophaaGreatDoorTie
import Derived.Lay
import Derived.LaidOnce
import Derived.SevenTiedAt
import Derived.Test.YtifflnhooaophaaGreatDoorUO
namespace Go.Proofs.YtifflnhooaophaaGreatDoor.pipeNames
open Go.ChangeShapes Go.WideShapes Go.ChangeAt Go.RowKit Go.Lib
set_option linter.unusedVariables false

theorem own : ownKnob Tryz.prog.godebug = none := by kernel_rfl

set_option maxRecDepth 100000 in
theorem good : Ab.goodB Tryz.prog = true := by kernel_rfl
set_option maxRecDepth 100000 in
theorem laid : laidOutB Tryz.prog = true := by kernel_rfl
set_option maxRecDepth 100000 in
theorem sup : (Tryz.f6.params.toList.all fun t => Ab.supB Tryz.prog 20 t) = true := by kernel_rfl
set_option maxRecDepth 100000 in
theorem rdb : (Tryz.f6.params.toList.all fun t => Tryz.prog.readableRec t && Nat.blt t Tryz.prog.types.size) = true := by kernel_rfl
theorem rdb' : ∀ t ∈ Tryz.f6.params.toList, Tryz.prog.readableRec t = true ∧ t < Tryz.prog.types.size := fun t ht => by
  have := List.all_eq_true.1 rdb t ht
  rw [Bool.and_eq_true, Ab.blt_eq] at this
  exact ⟨this.1, of_decide_eq_true this.2⟩

theorem walk (av : List Value) (bs : List (List Value)) (h : Ab.ArgS Tryz.prog Tryz.f6.params.toList Tryz.prog.globals.size av bs) :
    Ab.wCall Tryz.prog 6 av (Ab.lay (Ab.start Tryz.prog.globals.size) bs) fun v _ => v = .bool true := by
  have hO := Ab.st_args Tryz.prog.globals.size bs
  have h : Ab.ArgS Tryz.prog [] Tryz.prog.globals.size av bs := by rw [Tryz.params6] at h; exact h
  obtain ⟨rfl, rfl⟩ := Ab.arg_nil h
  exact J.pnames_main (Γ := []) (hO.sub (List.nil_sublist _)) (fun _ => rfl)

set_option maxRecDepth 100000 in
theorem lifted (os : Os) (started : os.Started) (H : Type) (enc : TypeId × Value → H) :
    ReturnsInHanded {} Tryz.checked os 6 .any (fun w args => (Rows.pipeNamesSpec.pre enc Tryz.prog Tryz.f6 [] false w args ∧ laidMetH Tryz.prog Rows.pipeNamesRow.laid w) ∧ sizedMet enc Tryz.prog Tryz.f6 (OpenSpec.ofChange Rows.pipeNamesSpec) false w args)
      (Rows.pipeNamesSpec.post enc Tryz.prog Tryz.f6 false true false false) := by
  refine returnsInHanded_of_change_and (C := Tryz.checked) (X := fun w _ => laidMetH Tryz.prog Rows.pipeNamesRow.laid w) (fun _ _ _ hh h => h.of_heap hh) own started (by kernel_rfl) Tryz.func6
    (ChangeSpec.witness_shaped (enc := enc) (C := Tryz.checked) (os := os) (X := fun w _ => laidMetH Tryz.prog Rows.pipeNamesRow.laid w) false (World.laidAll Tryz.prog os Rows.pipeNamesRow.laid) #[] 8 (World.laidAll_os _ _ _)
      (World.shaped_of_ZipB (by kernel_rfl) (by kernel_rfl)) (by kernel_rfl) (by kernel_rfl) (by kernel_rfl)
      (by rw [MakeChecks.laidMetH_plain _ _ _ (by kernel_rfl)]; exact laidMet_laidAll _ (by kernel_rfl) (by kernel_rfl))) ?_
  intro W base args ds gs before hval0 hW _ _ hL _
  have hW' := hW
  obtain ⟨p, q, hA, hV, rfl, hfz, hnd⟩ := hW
  obtain ⟨rfl, rfl⟩ := trodVars_none hV
  have hlen := Ab.trodAll_len hA
  rw [MakeChecks.laidMetH_plain _ _ _ (by kernel_rfl)] at hL
  have tabs := Seal.tabs2_of_reads (Lib.laidMet.reads hL (.head _)) (Lib.laidMet.reads hL (.tail _ (.head _))) (Lib.laidMet.reads hL (.tail _ (.tail _ (.head _)))) (Lib.laidMet.reads hL (.tail _ (.tail _ (.tail _ (.head _))))) (Lib.laidMet.reads hL (.tail _ (.tail _ (.tail _ (.tail _ (.head _)))))) (Lib.laidMet.reads hL (.tail _ (.tail _ (.tail _ (.tail _ (.tail _ (.head _)))))))
  have alive := Seal.orcS2_ok tabs
  refine (Ab.law_calls good alive (fun t ht => List.all_eq_true.1 sup t ht) walk (fun j t v ht hv => hval0 j t v (by simp at ht) (by simpa using hv)) hA).mono fun e W' ⟨he, hg⟩ => ?_
  subst he
  obtain rfl : ds = [] := by
    have hlen : ds.length = 0 := by rw [Tryz.params6] at hlen; exact hlen
    exact List.length_eq_zero_iff.1 hlen
  exact ⟨_, rfl, Ab.post_law laid rdb' rfl hW' hg (fun _ _ _ => (trodAll_cons_mk (shut_bool Tryz.underlying4 _) trodAll_mk0)) rfl rfl⟩

set_option maxRecDepth 100000
theorem fact01 : (Rows.pipeNamesRow.wf (OpenSpec.ofChange Rows.pipeNamesSpec)) = true := by kernel_rfl
theorem fact02 : (laidOutB Tryz.prog) = true := by kernel_rfl
theorem fact03 : (mapsRowed Tryz.prog) = true := by kernel_rfl
theorem fact04 : (Tryz.f6.params.all (Tryz.prog.readableRec ·)) = true := by kernel_rfl
theorem fact05 : (namedTie Tryz.prog Rows.pipeNamesRow.named Rows.pipeNamesSpec.vars) = true := by kernel_rfl
theorem fact06 : ((Rows.pipeNamesRow.stops == [])) = true := by kernel_rfl
theorem fact07 : ((Tryz.prog.stops == [])) = true := by kernel_rfl
theorem fact08 : ((Rows.pipeNamesRow.knobs == [])) = true := by kernel_rfl
theorem fact09 : ((Tryz.prog.stopKnobs == [])) = true := by kernel_rfl
theorem fact10 : ((Rows.pipeNamesRow.inPlace == Tryz.prog.inPlace 6)) = true := by kernel_rfl
theorem fact11 : ((Rows.pipeNamesRow.unfollowed == Tryz.prog.unfollowed 6)) = true := by kernel_rfl
theorem fact12 : ((Rows.pipeNamesRow.recurses == Tryz.prog.recurses 6)) = true := by kernel_rfl
theorem fact13 : ((Rows.pipeNamesRow.named == Tryz.prog.varsNamed 6)) = true := by kernel_rfl
theorem fact14 : ((Rows.pipeNamesRow.maps == (Tryz.f6.params.toList ++ Rows.pipeNamesSpec.plain.varTypes Tryz.prog).any (Tryz.prog.mapsRec ·))) = true := by kernel_rfl
theorem fact15 : ((Rows.pipeNamesRow.ifaces == (Tryz.f6.params.toList ++ Rows.pipeNamesSpec.plain.varTypes Tryz.prog).any (Tryz.prog.ifacesRec ·))) = true := by kernel_rfl
theorem fact16 : ((Rows.pipeNamesRow.mapsOut == Tryz.prog.mapsAmong Tryz.f6.resultTypes.toList)) = true := by kernel_rfl
theorem fact17 : ((Rows.pipeNamesRow.loops == (Tryz.f6.params.toList ++ Rows.pipeNamesSpec.plain.varTypes Tryz.prog).any (Tryz.prog.loopsFrom ·))) = true := by kernel_rfl
theorem fact18 : ((Rows.pipeNamesRow.wideKeys == (Tryz.f6.params.toList ++ Rows.pipeNamesSpec.plain.varTypes Tryz.prog ++ Tryz.f6.resultTypes.toList).any (Tryz.prog.wideKeysFrom ·))) = true := by kernel_rfl
theorem fact19 : (Rows.pipeNamesSpec.vars.all (Tryz.prog.varReadable ·)) = true := by kernel_rfl
theorem fact20 : (Tryz.f6.resultTypes.all (fun t => Tryz.prog.readableRec t && decide (t < Tryz.prog.types.size))) = true := by kernel_rfl
theorem fact21 : ((Rows.pipeNamesRow.ifacesOut == Tryz.f6.resultTypes.toList.any (Tryz.prog.ifacesRec ·))) = true := by kernel_rfl
theorem fact22 : ((Rows.pipeNamesRow.loopsOut == Tryz.f6.resultTypes.toList.any (Tryz.prog.loopsFrom ·))) = true := by kernel_rfl
theorem fact23 : ((Rows.pipeNamesRow.plainKeys == Tryz.prog.plainKeys)) = true := by kernel_rfl
theorem fact24 : (Rows.pipeNamesRow.shortTexts.isNone) = true := by kernel_rfl
theorem fact25 : (Tryz.prog.stopsHeard) = true := by kernel_rfl
theorem fact26 : (Tryz.prog.mayEnter) = true := by kernel_rfl
theorem fact27 : ((Rows.pipeNamesRow.lifted == Tryz.prog.liftsFinal)) = true := by kernel_rfl
theorem fact28 : ((Tryz.prog.make == some Rows.pipeNamesRow.make)) = true := by kernel_rfl
theorem fact29 : ((Rows.pipeNamesRow.kinds == (if Rows.pipeNamesRow.domain.isEmpty then [] else Tryz.f6.params.toList.map fun t => match Tryz.prog.underlying t with | some (.int k) => some k | _ => none))) = true := by kernel_rfl
theorem fact30 : ((Rows.pipeNamesRow.pinned == Rows.pipeNamesRow.pinnedBy)) = true := by kernel_rfl
theorem fact31 : ((Rows.pipeNamesRow.veiled == (Tryz.f6.params.toList ++ Rows.pipeNamesSpec.plain.varTypes Tryz.prog ++ Tryz.f6.resultTypes.toList).any (Tryz.prog.veiledRec ·))) = true := by kernel_rfl
theorem fact32 : (Rows.pipeNamesRow.veiledFits Tryz.prog Tryz.f6.params.toList (Tryz.f6.params.toList ++ Rows.pipeNamesSpec.plain.varTypes Tryz.prog ++ Tryz.f6.resultTypes.toList)) = true := by kernel_rfl
theorem factAnd {a b : Bool} (h : a = true) (g : b = true) : (a && b) = true := by rw [h, g]; rfl
theorem factAll : joinedFacts Tryz.prog 6 Tryz.f6 Rows.pipeNamesSpec Rows.pipeNamesRow = true := (factAnd (factAnd (factAnd (factAnd (factAnd (factAnd (factAnd (factAnd (factAnd (factAnd (factAnd (factAnd (factAnd (factAnd (factAnd (factAnd (factAnd (factAnd (factAnd (factAnd (factAnd (factAnd (factAnd (factAnd (factAnd (factAnd (factAnd (factAnd (factAnd (factAnd (factAnd fact01 fact02) fact03) fact04) fact05) fact06) fact07) fact08) fact09) fact10) fact11) fact12) fact13) fact14) fact15) fact16) fact17) fact18) fact19) fact20) fact21) fact22) fact23) fact24) fact25) fact26) fact27) fact28) fact29) fact30) fact31) fact32)

theorem over : Rows.PipeNamesSaid :=
  OpenClaim.holds_of_wide 6 Tryz.f6 rfl rfl rfl rfl rfl rfl rfl ⟨rfl, rfl, rfl, rfl, rfl⟩ rfl rfl rfl rfl rfl (by kernel_rfl) Tryz.func6 factAll
    (of_decide_eq_true (by kernel_rfl)) (by unfold Func.isWrapper; first | (rw [if_pos (by decide +kernel)]; kernel_rfl) | (rw [if_neg (by decide +kernel)]; exact ⟨rfl, rfl⟩))
    (fun os started H enc _ => lifted os started H enc)

theorem proved : Rows.PipeNamesCardSaid :=
  Claim7.holds_tied_plain_at .later [] Rows.pipeNamesCard.laidKinds true Rows.pipeNamesCard.stood.harness Rows.pipeNamesCard.stood.looks over (fun _ h => by cases h) (by kernel_rfl) (fun _ h => by cases h) pipeNames_row_tie rfl ⟨rfl, rfl⟩ (by kernel_rfl) rfl
    (fun f fn hf hfn => by
      obtain rfl : f = 6 := Option.some.inj ((show Tryz.prog.funcNamed Rows.pipeNamesRow.func = some 6 by kernel_rfl).symm.trans hf) |>.symm
      obtain rfl : fn = Tryz.f6 := (Option.some.inj (Tryz.func6.symm.trans hfn)).symm
      exact ⟨by kernel_rfl, fun j t ht => by
        rw [Tryz.params6] at ht
        simp at ht⟩)
    (by kernel_rfl)
end Go.Proofs.YtifflnhooaophaaGreatDoor.pipeNames
