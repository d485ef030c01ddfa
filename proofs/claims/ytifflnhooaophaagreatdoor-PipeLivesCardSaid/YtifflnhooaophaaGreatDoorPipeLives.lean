/-
  PipeLives returns true,whatever its arguments,where the listed tables of Go's library stand as the row lists them.
-/
import Derived.Test.YtifflnhooaophaaGreatDoorRows
import Derived.Test.YtifflnhooaophaaGreatDoorCards
import Derived.Test.YtifflnhooaophaaGreatDoorTie
import Derived.Lay
import Derived.LaidOnce
import Derived.SevenTiedAt
import Derived.Test.YtifflnhooaophaaGreatDoorVL
namespace Go.Proofs.YtifflnhooaophaaGreatDoor.pipeLives
open Go.ChangeShapes Go.WideShapes Go.ChangeAt Go.RowKit Go.Lib
set_option linter.unusedVariables false

theorem own:ownKnob Tryz.prog.godebug = none:=by kernel_rfl

set_option maxRecDepth 100000 in
theorem good:Ab.KQ Tryz.prog = true:=by kernel_rfl
set_option maxRecDepth 100000 in
theorem laid:laidOutB Tryz.prog = true:=by kernel_rfl
set_option maxRecDepth 100000 in
theorem sup:(Tryz.f5.params.toList.all fun t=>Ab.zg Tryz.prog 20 t) = true:=by kernel_rfl
set_option maxRecDepth 100000 in
theorem rdb:(Tryz.f5.params.toList.all fun t=>Tryz.prog.readableRec t && Nat.blt t Tryz.prog.types.size) = true:=by kernel_rfl
theorem rdb' : ∀ t ∈ Tryz.f5.params.toList,Tryz.prog.readableRec t = true∧t < Tryz.prog.types.size:=fun t ht=>by
  have:=List.all_eq_true.1 rdb t ht
  rw [Bool.and_eq_true,Ab.qI] at this
  exact ⟨this.1,of_decide_eq_true this.2⟩

theorem walk (av : List Value) (bs : List (List Value)) (h : Ab.pe Tryz.prog Tryz.f5.params.toList Tryz.prog.globals.size av bs) :
    Ab.ay Tryz.prog 5 av (Ab.tp (Ab.pQ Tryz.prog.globals.size) bs) fun v _=>v = .bool true:=by
  have hO:=Ab.aFy Tryz.prog.globals.size bs
  have h : Ab.pe Tryz.prog [31,70] Tryz.prog.globals.size av bs:=by rw [Tryz.params5] at h; exact h
  obtain ⟨w,wv,ov,fv,kv,vs,b1,b2,rfl,rfl,r1,h1⟩:=J.aGC h
  obtain ⟨va,vs,d1,d2,acts,rfl,rfl,r2,h2⟩:=J.aGB h1
  obtain ⟨rfl,rfl⟩:=Ab.aFB h2
  rw [Ab.Lp,Ab.Lp] at hO
  exact J.plives_main (r1.app) (J.RdAcP.app' r2.app) hO (fun _=>rfl)

set_option maxRecDepth 100000 in
theorem lifted (os : Os) (started : os.Started) (H : Type) (enc : TypeId × Value→H) :
    ReturnsInHanded {} Tryz.checked os 5 .any (fun w args=>(Rows.pipeLivesSpec.pre enc Tryz.prog Tryz.f5 [] false w args∧laidMetH Tryz.prog Rows.pipeLivesRow.laid w)∧sizedMet enc Tryz.prog Tryz.f5 (OpenSpec.ofChange Rows.pipeLivesSpec) false w args)
      (Rows.pipeLivesSpec.post enc Tryz.prog Tryz.f5 false true false false):=by
  refine returnsInHanded_of_change_and (C:=Tryz.checked) (X:=fun w _=>laidMetH Tryz.prog Rows.pipeLivesRow.laid w) (fun _ _ _ hh h=>h.of_heap hh) own started (by kernel_rfl) Tryz.func5
    (ChangeSpec.witness_shaped (enc:=enc) (C:=Tryz.checked) (os:=os) (X:=fun w _=>laidMetH Tryz.prog Rows.pipeLivesRow.laid w) false (World.laidAll Tryz.prog os Rows.pipeLivesRow.laid) #[.agg #[.int .i64 0,.int .i64 0,.slice none 0 0,.slice none 0 0,.slice none 0 0,.slice none 0 0,.string ⟨#[]⟩,.int .i64 0,.int .i64 0,.int .i64 0,.int .i64 0,.int .i64 0,.int .i64 0,.int .i64 0,.string ⟨#[]⟩,.int .u64 0],.slice none 0 0] 8 (World.laidAll_os _ _ _)
      (World.shaped_of_ZipB (by kernel_rfl) (by kernel_rfl)) (by kernel_rfl) (by kernel_rfl) (by kernel_rfl)
      (by rw [MakeChecks.laidMetH_plain _ _ _ (by kernel_rfl)]; exact laidMet_laidAll _ (by kernel_rfl) (by kernel_rfl))) ?_
  intro W base args ds gs before hval0 hW _ _ hL _
  have hW':=hW
  obtain ⟨p,q,hA,hV,rfl,hfz,hnd⟩:=hW
  obtain ⟨rfl,rfl⟩:=trodVars_none hV
  have hlen:=Ab.anX hA
  rw [MakeChecks.laidMetH_plain _ _ _ (by kernel_rfl)] at hL
  have tabs:=Seal.tabs2_of_reads (Lib.laidMet.reads hL (.head _)) (Lib.laidMet.reads hL (.tail _ (.head _))) (Lib.laidMet.reads hL (.tail _ (.tail _ (.head _)))) (Lib.laidMet.reads hL (.tail _ (.tail _ (.tail _ (.head _))))) (Lib.laidMet.reads hL (.tail _ (.tail _ (.tail _ (.tail _ (.head _)))))) (Lib.laidMet.reads hL (.tail _ (.tail _ (.tail _ (.tail _ (.tail _ (.head _)))))))
  have alive:=Seal.orcS2_ok tabs
  refine (Ab.aFz good alive (fun t ht=>List.all_eq_true.1 sup t ht) walk (fun j t v ht hv=>hval0 j t v (by simpa using ht) (by simpa using hv)) hA).mono fun e W' ⟨he,hg⟩=>?_
  subst he
  obtain ⟨d0,d1,rfl⟩ : ∃ d0 d1,ds = [d0,d1]:=by
    have hlen : ds.length = 2:=by rw [Tryz.params5] at hlen; exact hlen
    match ds,hlen with
    | [d0,d1],_=>exact ⟨d0,d1,rfl⟩
  exact ⟨_,rfl,Ab.aFA laid rdb' rfl hW' hg (fun _ _ _=>(trodAll_cons_mk (shut_bool Tryz.underlying4 _) trodAll_mk0)) rfl rfl⟩

set_option maxRecDepth 100000
abbrev factR:=Rows.pipeLivesRow
noncomputable abbrev factQ : Program:=Tryz.prog
noncomputable abbrev factA : List TypeId:=Tryz.f5.params.toList++Rows.pipeLivesSpec.plain.varTypes factQ
noncomputable abbrev factB : List TypeId:=factA++Tryz.f5.resultTypes.toList
theorem fact00:(factR.wf (OpenSpec.ofChange Rows.pipeLivesSpec)) = true∧(laidOutB factQ) = true:=⟨by kernel_rfl,by kernel_rfl⟩
theorem fact01:(mapsRowed factQ) = true:=by kernel_rfl
theorem fact02:(Tryz.f5.params.all (factQ.readableRec ·)) = true∧(namedTie factQ factR.named Rows.pipeLivesSpec.vars) = true∧((factR.stops == [])) = true∧((factQ.stops == [])) = true∧((factR.knobs == [])) = true∧((factQ.stopKnobs == [])) = true:=⟨by kernel_rfl,by kernel_rfl,by kernel_rfl,by kernel_rfl,by kernel_rfl,by kernel_rfl⟩
theorem fact03:((factR.inPlace == factQ.inPlace 5)) = true:=by kernel_rfl
theorem fact04:((factR.unfollowed == factQ.unfollowed 5)) = true:=by kernel_rfl
theorem fact05:((factR.recurses == factQ.recurses 5)) = true:=by kernel_rfl
theorem fact06:((factR.named == factQ.varsNamed 5)) = true:=by kernel_rfl
theorem fact07:((factR.maps == (factA).any (factQ.mapsRec ·))) = true∧((factR.ifaces == (factA).any (factQ.ifacesRec ·))) = true∧((factR.mapsOut == factQ.mapsAmong Tryz.f5.resultTypes.toList)) = true∧((factR.loops == (factA).any (factQ.loopsFrom ·))) = true:=⟨by kernel_rfl,by kernel_rfl,by kernel_rfl,by kernel_rfl⟩
theorem fact08:((factR.wideKeys == (factB).any (factQ.wideKeysFrom ·))) = true∧(Rows.pipeLivesSpec.vars.all (factQ.varReadable ·)) = true∧(Tryz.f5.resultTypes.all (fun t=>factQ.readableRec t && decide (t < factQ.types.size))) = true∧((factR.ifacesOut == Tryz.f5.resultTypes.toList.any (factQ.ifacesRec ·))) = true:=⟨by kernel_rfl,by kernel_rfl,by kernel_rfl,by kernel_rfl⟩
theorem fact09:((factR.loopsOut == Tryz.f5.resultTypes.toList.any (factQ.loopsFrom ·))) = true∧((factR.plainKeys == factQ.plainKeys)) = true∧(factR.shortTexts.isNone) = true:=⟨by kernel_rfl,by kernel_rfl,by kernel_rfl⟩
theorem fact10:(factQ.stopsHeard) = true∧(factQ.mayEnter) = true:=⟨by kernel_rfl,by kernel_rfl⟩
theorem fact11:((factR.lifted == factQ.liftsFinal)) = true:=by kernel_rfl
theorem fact12:((factQ.make == some factR.make)) = true∧((factR.kinds == (if factR.domain.isEmpty then [] else Tryz.f5.params.toList.map fun t=>match factQ.underlying t with | some (.int k)=>some k | _=>none))) = true∧((factR.pinned == factR.pinnedBy)) = true:=⟨by kernel_rfl,by kernel_rfl,by kernel_rfl⟩
theorem fact13:((factR.veiled == (factB).any (factQ.veiledRec ·))) = true∧(factR.veiledFits factQ Tryz.f5.params.toList (factB)) = true:=⟨by kernel_rfl,by kernel_rfl⟩
theorem factAnd {a b : Bool} (h : a = true) (g : b = true) : (a && b) = true:=by rw [h,g]; rfl
theorem factAll:joinedFacts Tryz.prog 5 Tryz.f5 Rows.pipeLivesSpec Rows.pipeLivesRow = true:=(factAnd (factAnd (factAnd (factAnd (factAnd (factAnd (factAnd (factAnd (factAnd (factAnd (factAnd (factAnd (factAnd (factAnd (factAnd (factAnd (factAnd (factAnd (factAnd (factAnd (factAnd (factAnd (factAnd (factAnd (factAnd (factAnd (factAnd (factAnd (factAnd (factAnd (factAnd fact00.1 fact00.2) fact01) fact02.1) fact02.2.1) fact02.2.2.1) fact02.2.2.2.1) fact02.2.2.2.2.1) fact02.2.2.2.2.2) fact03) fact04) fact05) fact06) fact07.1) fact07.2.1) fact07.2.2.1) fact07.2.2.2) fact08.1) fact08.2.1) fact08.2.2.1) fact08.2.2.2) fact09.1) fact09.2.1) fact09.2.2) fact10.1) fact10.2) fact11) fact12.1) fact12.2.1) fact12.2.2) fact13.1) fact13.2)

theorem over:Rows.PipeLivesSaid :=
  OpenClaim.holds_of_wide 5 Tryz.f5 rfl rfl rfl rfl rfl rfl rfl ⟨rfl,rfl,rfl,rfl,rfl⟩ rfl rfl rfl rfl rfl (by kernel_rfl) Tryz.func5 factAll
    (of_decide_eq_true (by kernel_rfl)) (by unfold Func.isWrapper; first | (rw [if_pos (by decide +kernel)]; kernel_rfl) | (rw [if_neg (by decide +kernel)]; exact ⟨rfl,rfl⟩))
    (fun os started H enc _=>lifted os started H enc)

theorem proved:Rows.PipeLivesCardSaid :=
  Claim7.holds_tied_plain_at .later [] Rows.pipeLivesCard.laidKinds true Rows.pipeLivesCard.stood.harness Rows.pipeLivesCard.stood.looks over (fun _ h=>by cases h) (by kernel_rfl) (fun _ h=>by cases h) pipeLives_row_tie rfl ⟨rfl,rfl⟩ (by kernel_rfl) rfl
    (fun f fn hf hfn=>by
      obtain rfl : f = 5:=Option.some.inj ((show Tryz.prog.funcNamed Rows.pipeLivesRow.func = some 5 by kernel_rfl).symm.trans hf) |>.symm
      obtain rfl : fn = Tryz.f5:=(Option.some.inj (Tryz.func5.symm.trans hfn)).symm
      exact ⟨by kernel_rfl,fun j t ht=>by
        rw [Tryz.params5] at ht
        have hm : t ∈ [31,70]:=by simpa using Array.mem_of_getElem? ht
        have hall : ([31,70].all fun u=>!Tryz.prog.wantsStandIn u) = true:=by kernel_rfl
        exact (show Tryz.prog.wantsStandIn t = false by simpa using List.all_eq_true.1 hall t hm)⟩)
    (by kernel_rfl)
end Go.Proofs.YtifflnhooaophaaGreatDoor.pipeLives
