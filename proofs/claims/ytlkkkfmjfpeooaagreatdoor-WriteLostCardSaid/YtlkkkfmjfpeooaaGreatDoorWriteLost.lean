/-
  WriteLost returns true, whatever its arguments, where the listed tables of Go's library stand as the row lists them: its code is walked in a verified interpreter over abstract memory (the texts Ab..), function by function; the library's predicates on runes by the kit's contracts.
-/
import Derived.Test.YtlkkkfmjfpeooaaGreatDoorRows
import Derived.Test.YtlkkkfmjfpeooaaGreatDoorCards
import Derived.Test.YtlkkkfmjfpeooaaGreatDoorTie
import Derived.Lay
import Derived.LaidOnce
import Derived.SevenTiedAt
import Derived.Test.YtlkkkfmjfpeooaaGreatDoorUK
namespace Go.Proofs.YtlkkkfmjfpeooaaGreatDoor.writeLost
open Go.ChangeShapes Go.WideShapes Go.ChangeAt Go.RowKit Go.Lib
set_option linter.unusedVariables false

theorem own : ownKnob Tryz.prog.godebug = none := by kernel_rfl

set_option maxRecDepth 100000 in
theorem good : Ab.goodB Tryz.prog = true := by kernel_rfl
set_option maxRecDepth 100000 in
theorem laid : laidOutB Tryz.prog = true := by kernel_rfl
set_option maxRecDepth 100000 in
theorem sup : (Tryz.f5.params.toList.all fun t => Ab.supB Tryz.prog 20 t) = true := by kernel_rfl
set_option maxRecDepth 100000 in
theorem rdb : (Tryz.f5.params.toList.all fun t => Tryz.prog.readableRec t && Nat.blt t Tryz.prog.types.size) = true := by kernel_rfl
theorem rdb' : ∀ t ∈ Tryz.f5.params.toList, Tryz.prog.readableRec t = true ∧ t < Tryz.prog.types.size := fun t ht => by
  have := List.all_eq_true.1 rdb t ht
  rw [Bool.and_eq_true, Ab.blt_eq] at this
  exact ⟨this.1, of_decide_eq_true this.2⟩

theorem walk (av : List Value) (bs : List (List Value)) (h : Ab.ArgS Tryz.prog Tryz.f5.params.toList Tryz.prog.globals.size av bs) :
    Ab.wCall Tryz.prog 5 av (Ab.lay (Ab.start Tryz.prog.globals.size) bs) fun v _ => v = .bool true := by
  have hO := Ab.st_args Tryz.prog.globals.size bs
  have h : Ab.ArgS Tryz.prog [69, 70, 3] Tryz.prog.globals.size av bs := by rw [Tryz.params5] at h; exact h
  obtain ⟨x0, x1, x2, x3, vs, rfl, h1⟩ := J.arg_wd h
  obtain ⟨v, vs, b1, b2, acts, rfl, rfl, r1, h2⟩ := J.arg_acw h1
  obtain ⟨x, vs, rfl, _, h3⟩ := Ab.arg_int (k := .i64) Tryz.underlying3 h2
  obtain ⟨rfl, rfl⟩ := Ab.arg_nil h3
  rw [Ab.argG_append] at hO
  exact J.wlost_main (J.RdAc.app r1) hO (fun _ => rfl)

set_option maxRecDepth 100000 in
theorem lifted (os : Os) (started : os.Started) (H : Type) (enc : TypeId × Value → H) :
    ReturnsInHanded {} Tryz.checked os 5 .any (fun w args => (Rows.writeLostSpec.pre enc Tryz.prog Tryz.f5 [] false w args ∧ laidMetH Tryz.prog Rows.writeLostRow.laid w) ∧ sizedMet enc Tryz.prog Tryz.f5 (OpenSpec.ofChange Rows.writeLostSpec) false w args)
      (Rows.writeLostSpec.post enc Tryz.prog Tryz.f5 false true false false) := by
  refine returnsInHanded_of_change_and (C := Tryz.checked) (X := fun w _ => laidMetH Tryz.prog Rows.writeLostRow.laid w) (fun _ _ _ hh h => h.of_heap hh) own started (by kernel_rfl) Tryz.func5
    (ChangeSpec.witness_shaped (enc := enc) (C := Tryz.checked) (os := os) (X := fun w _ => laidMetH Tryz.prog Rows.writeLostRow.laid w) false (World.laidAll Tryz.prog os Rows.writeLostRow.laid) #[.agg #[.int .i64 0, .int .i64 0, .int .i64 0, .int .i64 0], .slice none 0 0, .int .i64 0] 8 (World.laidAll_os _ _ _)
      (World.shaped_of_ZipB (by kernel_rfl) (by kernel_rfl)) (by kernel_rfl) (by kernel_rfl) (by kernel_rfl)
      (by rw [MakeChecks.laidMetH_plain _ _ _ (by kernel_rfl)]; exact laidMet_laidAll _ (by kernel_rfl) (by kernel_rfl))) ?_
  intro W base args ds gs before hval0 hW _ _ hL _
  have hW' := hW
  obtain ⟨p, q, hA, hV, rfl, hfz, hnd⟩ := hW
  obtain ⟨rfl, rfl⟩ := trodVars_none hV
  have hlen := Ab.trodAll_len hA
  rw [MakeChecks.laidMetH_plain _ _ _ (by kernel_rfl)] at hL
  have tabs := Seal.tabs_of_reads (Lib.laidMet.reads hL (.head _)) (Lib.laidMet.reads hL (.tail _ (.head _))) (Lib.laidMet.reads hL (.tail _ (.tail _ (.head _)))) (Lib.laidMet.reads hL (.tail _ (.tail _ (.tail _ (.head _))))) (Lib.laidMet.reads hL (.tail _ (.tail _ (.tail _ (.tail _ (.head _))))))
  have alive := Seal.orcS_ok tabs
  refine (Ab.law_calls good alive (fun t ht => List.all_eq_true.1 sup t ht) walk (fun j t v ht hv => hval0 j t v (by simpa using ht) (by simpa using hv)) hA).mono fun e W' ⟨he, hg⟩ => ?_
  subst he
  obtain ⟨d0, d1, d2, rfl⟩ : ∃ d0 d1 d2, ds = [d0, d1, d2] := by
    have hlen : ds.length = 3 := by rw [Tryz.params5] at hlen; exact hlen
    match ds, hlen with
    | [d0, d1, d2], _ => exact ⟨d0, d1, d2, rfl⟩
  exact ⟨_, rfl, Ab.post_law laid rdb' rfl hW' hg (fun _ _ _ => (trodAll_cons_mk (shut_bool Tryz.underlying4 _) trodAll_mk0)) rfl rfl⟩

theorem over : Rows.WriteLostSaid :=
  OpenClaim.holds_of_wide 5 Tryz.f5 rfl rfl rfl rfl rfl rfl rfl ⟨rfl, rfl, rfl, rfl, rfl⟩ rfl rfl rfl rfl rfl (by kernel_rfl) Tryz.func5 (by kernel_rfl)
    (of_decide_eq_true (by kernel_rfl)) (by unfold Func.isWrapper; first | (rw [if_pos (by decide +kernel)]; kernel_rfl) | (rw [if_neg (by decide +kernel)]; exact ⟨rfl, rfl⟩))
    (fun os started H enc _ => lifted os started H enc)

theorem proved : Rows.WriteLostCardSaid :=
  Claim7.holds_tied_plain_at .later [] Rows.writeLostCard.laidKinds true Rows.writeLostCard.stood.harness Rows.writeLostCard.stood.looks over (fun _ h => by cases h) (by kernel_rfl) (fun _ h => by cases h) writeLost_row_tie rfl ⟨rfl, rfl⟩ (by kernel_rfl) rfl
    (fun f fn hf hfn => by
      obtain rfl : f = 5 := Option.some.inj ((show Tryz.prog.funcNamed Rows.writeLostRow.func = some 5 by kernel_rfl).symm.trans hf) |>.symm
      obtain rfl : fn = Tryz.f5 := (Option.some.inj (Tryz.func5.symm.trans hfn)).symm
      exact ⟨by kernel_rfl, fun j t ht => by
        rw [Tryz.params5] at ht
        have hm : t ∈ [69, 70, 3] := by simpa using Array.mem_of_getElem? ht
        have hall : ([69, 70, 3].all fun u => !Tryz.prog.wantsStandIn u) = true := by kernel_rfl
        exact (show Tryz.prog.wantsStandIn t = false by simpa using List.all_eq_true.1 hall t hm)⟩)
    (by kernel_rfl)
end Go.Proofs.YtlkkkfmjfpeooaaGreatDoor.writeLost
