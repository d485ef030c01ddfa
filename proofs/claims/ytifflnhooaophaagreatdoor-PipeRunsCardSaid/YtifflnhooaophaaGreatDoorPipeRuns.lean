/-
  PipeRuns returns true,whatever its arguments,where the listed tables of Go's library stand as the row lists them.
-/
import Derived.Test.YtifflnhooaophaaGreatDoorRows
import Derived.Test.YtifflnhooaophaaGreatDoorCards
import Derived.Test.YtifflnhooaophaaGreatDoorTie
import Derived.Lay
import Derived.LaidOnce
import Derived.SevenTiedAt
import Derived.Test.YtifflnhooaophaaGreatDoorVG
namespace Go.Proofs.YtifflnhooaophaaGreatDoor.pipeRuns
open Go.ChangeShapes Go.WideShapes Go.ChangeAt Go.RowKit Go.Lib
set_option linter.unusedVariables false

theorem own:ownKnob Tryz.prog.godebug = none:=by kernel_rfl

set_option maxRecDepth 100000 in
theorem good:Ab.Dp Tryz.prog = true:=by kernel_rfl
set_option maxRecDepth 100000 in
theorem laid:laidOutB Tryz.prog = true:=by kernel_rfl
set_option maxRecDepth 100000 in
theorem sup:(Tryz.f9.params.toList.all fun t=>Ab.tB Tryz.prog 20 t) = true:=by kernel_rfl
set_option maxRecDepth 100000 in
theorem rdb:(Tryz.f9.params.toList.all fun t=>Tryz.prog.readableRec t && Nat.blt t Tryz.prog.types.size) = true:=by kernel_rfl
theorem rdb' : ∀ t ∈ Tryz.f9.params.toList,Tryz.prog.readableRec t = true∧t < Tryz.prog.types.size:=fun t ht=>by
  have:=List.all_eq_true.1 rdb t ht
  rw [Bool.and_eq_true,Ab.m8] at this
  exact ⟨this.1,of_decide_eq_true this.2⟩

theorem walk (av : List Value) (bs : List (List Value)) (h : Ab.nT Tryz.prog Tryz.f9.params.toList Tryz.prog.globals.size av bs) :
    Ab.aG Tryz.prog 9 av (Ab.pS (Ab.ng Tryz.prog.globals.size) bs) fun v _=>v = .bool true:=by
  have hO:=Ab.awP Tryz.prog.globals.size bs
  have h : Ab.nT Tryz.prog [31,70] Tryz.prog.globals.size av bs:=by rw [Tryz.params9] at h; exact h
  obtain ⟨w,wv,ov,fv,kv,vs,b1,b2,rfl,rfl,r1,h1⟩:=J.axK h
  obtain ⟨va,vs,d1,d2,acts,rfl,rfl,⟨r2,q2⟩,h2⟩:=J.ayj h1
  obtain ⟨rfl,rfl⟩:=Ab.awS h2
  rw [Ab.H2,Ab.H2] at hO
  exact J.ayh (r1.app) (J.RdAcP.app' r2.app) q2 hO (fun _=>rfl)

set_option maxRecDepth 100000 in
theorem lifted (os : Os) (started : os.Started) (H : Type) (enc : TypeId × Value→H) :
    ReturnsInHanded {} Tryz.checked os 9 .any (fun w args=>(Rows.pipeRunsSpec.pre enc Tryz.prog Tryz.f9 [] false w args∧laidMetH Tryz.prog Rows.pipeRunsRow.laid w)∧sizedMet enc Tryz.prog Tryz.f9 (OpenSpec.ofChange Rows.pipeRunsSpec) false w args)
      (Rows.pipeRunsSpec.post enc Tryz.prog Tryz.f9 false true false false):=by
  refine returnsInHanded_of_change_and (C:=Tryz.checked) (X:=fun w _=>laidMetH Tryz.prog Rows.pipeRunsRow.laid w) (fun _ _ _ hh h=>h.of_heap hh) own started (by kernel_rfl) Tryz.func9
    (ChangeSpec.witness_shaped (enc:=enc) (C:=Tryz.checked) (os:=os) (X:=fun w _=>laidMetH Tryz.prog Rows.pipeRunsRow.laid w) false (World.laidAll Tryz.prog os Rows.pipeRunsRow.laid) #[.agg #[.int .i64 0,.int .i64 0,.slice none 0 0,.slice none 0 0,.slice none 0 0,.slice none 0 0,.string ⟨#[]⟩,.int .i64 0,.int .i64 0,.int .i64 0,.int .i64 0,.int .i64 0,.int .i64 0,.int .i64 0,.string ⟨#[]⟩,.int .u64 0],.slice none 0 0] 8 (World.laidAll_os _ _ _)
      (World.shaped_of_ZipB (by kernel_rfl) (by kernel_rfl)) (by kernel_rfl) (by kernel_rfl) (by kernel_rfl)
      (by rw [MakeChecks.laidMetH_plain _ _ _ (by kernel_rfl)]; exact laidMet_laidAll _ (by kernel_rfl) (by kernel_rfl))) ?_
  intro W base args ds gs before hval0 hW _ _ hL _
  have hW':=hW
  obtain ⟨p,q,hA,hV,rfl,hfz,hnd⟩:=hW
  obtain ⟨rfl,rfl⟩:=trodVars_none hV
  have hlen:=Ab.ade hA
  rw [MakeChecks.laidMetH_plain _ _ _ (by kernel_rfl)] at hL
  have tabs:=Seal.tabs2_of_reads (Lib.laidMet.reads hL (.head _)) (Lib.laidMet.reads hL (.tail _ (.head _))) (Lib.laidMet.reads hL (.tail _ (.tail _ (.head _)))) (Lib.laidMet.reads hL (.tail _ (.tail _ (.tail _ (.head _))))) (Lib.laidMet.reads hL (.tail _ (.tail _ (.tail _ (.tail _ (.head _)))))) (Lib.laidMet.reads hL (.tail _ (.tail _ (.tail _ (.tail _ (.tail _ (.head _)))))))
  have alive:=Seal.orcS2_ok tabs
  refine (Ab.awQ good alive (fun t ht=>List.all_eq_true.1 sup t ht) walk (fun j t v ht hv=>hval0 j t v (by simpa using ht) (by simpa using hv)) hA).mono fun e W' ⟨he,hg⟩=>?_
  subst he
  obtain ⟨d0,d1,rfl⟩ : ∃ d0 d1,ds = [d0,d1]:=by
    have hlen : ds.length = 2:=by rw [Tryz.params9] at hlen; exact hlen
    match ds,hlen with
    | [d0,d1],_=>exact ⟨d0,d1,rfl⟩
  exact ⟨_,rfl,Ab.awR laid rdb' rfl hW' hg (fun _ _ _=>(trodAll_cons_mk (shut_bool Tryz.underlying4 _) trodAll_mk0)) rfl rfl⟩

set_option maxRecDepth 100000
abbrev factR:=Rows.pipeRunsRow
noncomputable abbrev factQ : Program:=Tryz.prog
noncomputable abbrev factA : List TypeId:=Tryz.f9.params.toList++Rows.pipeRunsSpec.plain.varTypes factQ
noncomputable abbrev factB : List TypeId:=factA++Tryz.f9.resultTypes.toList
theorem fact00:(factR.wf (OpenSpec.ofChange Rows.pipeRunsSpec)) = true∧(laidOutB factQ) = true:=⟨by kernel_rfl,by kernel_rfl⟩
theorem fact01:(mapsRowed factQ) = true:=by kernel_rfl
theorem fact02:(Tryz.f9.params.all (factQ.readableRec ·)) = true∧(namedTie factQ factR.named Rows.pipeRunsSpec.vars) = true∧((factR.stops == [])) = true∧((factQ.stops == [])) = true∧((factR.knobs == [])) = true∧((factQ.stopKnobs == [])) = true:=⟨by kernel_rfl,by kernel_rfl,by kernel_rfl,by kernel_rfl,by kernel_rfl,by kernel_rfl⟩
theorem fact03:((factR.inPlace == factQ.inPlace 9)) = true:=by kernel_rfl
theorem fact04:((factR.unfollowed == factQ.unfollowed 9)) = true:=by kernel_rfl
theorem fact05:((factR.recurses == factQ.recurses 9)) = true:=by kernel_rfl
theorem fact06:((factR.named == factQ.varsNamed 9)) = true:=by kernel_rfl
theorem fact07:((factR.maps == (factA).any (factQ.mapsRec ·))) = true∧((factR.ifaces == (factA).any (factQ.ifacesRec ·))) = true∧((factR.mapsOut == factQ.mapsAmong Tryz.f9.resultTypes.toList)) = true∧((factR.loops == (factA).any (factQ.loopsFrom ·))) = true:=⟨by kernel_rfl,by kernel_rfl,by kernel_rfl,by kernel_rfl⟩
theorem fact08:((factR.wideKeys == (factB).any (factQ.wideKeysFrom ·))) = true∧(Rows.pipeRunsSpec.vars.all (factQ.varReadable ·)) = true∧(Tryz.f9.resultTypes.all (fun t=>factQ.readableRec t && decide (t < factQ.types.size))) = true∧((factR.ifacesOut == Tryz.f9.resultTypes.toList.any (factQ.ifacesRec ·))) = true:=⟨by kernel_rfl,by kernel_rfl,by kernel_rfl,by kernel_rfl⟩
theorem fact09:((factR.loopsOut == Tryz.f9.resultTypes.toList.any (factQ.loopsFrom ·))) = true∧((factR.plainKeys == factQ.plainKeys)) = true∧(factR.shortTexts.isNone) = true:=⟨by kernel_rfl,by kernel_rfl,by kernel_rfl⟩
theorem fact10:(factQ.stopsHeard) = true∧(factQ.mayEnter) = true:=⟨by kernel_rfl,by kernel_rfl⟩
theorem fact11:((factR.lifted == factQ.liftsFinal)) = true:=by kernel_rfl
theorem fact12:((factQ.make == some factR.make)) = true∧((factR.kinds == (if factR.domain.isEmpty then [] else Tryz.f9.params.toList.map fun t=>match factQ.underlying t with | some (.int k)=>some k | _=>none))) = true∧((factR.pinned == factR.pinnedBy)) = true:=⟨by kernel_rfl,by kernel_rfl,by kernel_rfl⟩
theorem fact13:((factR.veiled == (factB).any (factQ.veiledRec ·))) = true∧(factR.veiledFits factQ Tryz.f9.params.toList (factB)) = true:=⟨by kernel_rfl,by kernel_rfl⟩
theorem factAnd {a b : Bool} (h : a = true) (g : b = true) : (a && b) = true:=by rw [h,g]; rfl
theorem factAll:joinedFacts Tryz.prog 9 Tryz.f9 Rows.pipeRunsSpec Rows.pipeRunsRow = true:=(factAnd (factAnd (factAnd (factAnd (factAnd (factAnd (factAnd (factAnd (factAnd (factAnd (factAnd (factAnd (factAnd (factAnd (factAnd (factAnd (factAnd (factAnd (factAnd (factAnd (factAnd (factAnd (factAnd (factAnd (factAnd (factAnd (factAnd (factAnd (factAnd (factAnd (factAnd fact00.1 fact00.2) fact01) fact02.1) fact02.2.1) fact02.2.2.1) fact02.2.2.2.1) fact02.2.2.2.2.1) fact02.2.2.2.2.2) fact03) fact04) fact05) fact06) fact07.1) fact07.2.1) fact07.2.2.1) fact07.2.2.2) fact08.1) fact08.2.1) fact08.2.2.1) fact08.2.2.2) fact09.1) fact09.2.1) fact09.2.2) fact10.1) fact10.2) fact11) fact12.1) fact12.2.1) fact12.2.2) fact13.1) fact13.2)

theorem over:Rows.PipeRunsSaid :=
  OpenClaim.holds_of_wide 9 Tryz.f9 rfl rfl rfl rfl rfl rfl rfl ⟨rfl,rfl,rfl,rfl,rfl⟩ rfl rfl rfl rfl rfl (by kernel_rfl) Tryz.func9 factAll
    (of_decide_eq_true (by kernel_rfl)) (by unfold Func.isWrapper; first | (rw [if_pos (by decide +kernel)]; kernel_rfl) | (rw [if_neg (by decide +kernel)]; exact ⟨rfl,rfl⟩))
    (fun os started H enc _=>lifted os started H enc)

theorem proved:Rows.PipeRunsCardSaid :=
  Claim7.holds_tied_plain_at .later [] Rows.pipeRunsCard.laidKinds true Rows.pipeRunsCard.stood.harness Rows.pipeRunsCard.stood.looks over (fun _ h=>by cases h) (by kernel_rfl) (fun _ h=>by cases h) pipeRuns_row_tie rfl ⟨rfl,rfl⟩ (by kernel_rfl) rfl
    (fun f fn hf hfn=>by
      obtain rfl : f = 9:=Option.some.inj ((show Tryz.prog.funcNamed Rows.pipeRunsRow.func = some 9 by kernel_rfl).symm.trans hf) |>.symm
      obtain rfl : fn = Tryz.f9:=(Option.some.inj (Tryz.func9.symm.trans hfn)).symm
      exact ⟨by kernel_rfl,fun j t ht=>by
        rw [Tryz.params9] at ht
        have hm : t ∈ [31,70]:=by simpa using Array.mem_of_getElem? ht
        have hall : ([31,70].all fun u=>!Tryz.prog.wantsStandIn u) = true:=by kernel_rfl
        exact (show Tryz.prog.wantsStandIn t = false by simpa using List.all_eq_true.1 hall t hm)⟩)
    (by kernel_rfl)
end Go.Proofs.YtifflnhooaophaaGreatDoor.pipeRuns
