/-
  TableFull returns true, whatever its arguments: its code is walked in a verified interpreter over abstract memory (the texts Ab..), function by function; the arguments are opened into that memory by their types.
-/
import Derived.Test.YtccblhllmplmaaaRows
import Derived.Test.YtccblhllmplmaaaAbC
import Derived.Test.YtccblhllmplmaaaUA
import Derived.Test.YtccblhllmplmaaaUH
namespace Go.Proofs.Ytccblhllmplmaaa.tableFull
open Go.ChangeShapes Go.WideShapes Go.ChangeAt Go.RowKit
set_option linter.unusedVariables false

theorem own : ownKnob Try.prog.godebug = none := by kernel_rfl

set_option maxRecDepth 100000 in
theorem good : Ab.goodB Try.prog = true := by kernel_rfl
set_option maxRecDepth 100000 in
theorem alive : Ab.OrcOk Try.prog := Ab.orc1_ok C.alive
set_option maxRecDepth 100000 in
theorem laid : laidOutB Try.prog = true := by kernel_rfl
set_option maxRecDepth 100000 in
theorem sup : (Try.f8.params.toList.all fun t => Ab.supB Try.prog 20 t) = true := by kernel_rfl
set_option maxRecDepth 100000 in
theorem rdb : (Try.f8.params.toList.all fun t => Try.prog.readableRec t && Nat.blt t Try.prog.types.size) = true := by kernel_rfl
theorem rdb' : ∀ t ∈ Try.f8.params.toList, Try.prog.readableRec t = true ∧ t < Try.prog.types.size := fun t ht => by
  have := List.all_eq_true.1 rdb t ht
  rw [Bool.and_eq_true, Ab.blt_eq] at this
  exact ⟨this.1, of_decide_eq_true this.2⟩

theorem walk (av : List Value) (bs : List (List Value)) (h : Ab.ArgS Try.prog Try.f8.params.toList Try.prog.globals.size av bs) :
    Ab.wCall Try.prog 8 av (Ab.lay (Ab.start Try.prog.globals.size) bs) fun v _ => v = .bool true := by
  have hO := Ab.st_args Try.prog.globals.size bs
  have h : Ab.ArgS Try.prog [29, 43, 3] Try.prog.globals.size av bs := by rw [Try.params8] at h; exact h
  obtain ⟨b0, b1, vs, rfl, h1⟩ := J.arg_pair h
  obtain ⟨v, vs, bb1, bb2, l, rfl, rfl, r1, hc, h2⟩ := J.arg_chsB h1
  obtain ⟨x, vs, rfl, _, h3⟩ := Ab.arg_int (k := .i64) Try.underlying3 h2
  obtain ⟨rfl, rfl⟩ := Ab.arg_nil h3
  rw [Ab.argG_append] at hO
  exact J.tfull_main hO r1.app hc

set_option maxRecDepth 100000 in
theorem lifted (os : Os) (started : os.Started) (H : Type) (enc : TypeId × Value → H) :
    ReturnsInHanded {} Try.checked os 8 .any (Rows.tableFullSpec.pre6 enc Try.prog Try.f8 Rows.tableFullRow.domain false) (Rows.tableFullSpec.post enc Try.prog Try.f8 false true false false) := by
  refine returnsInHanded_of_change (C := Try.checked) own started (by kernel_rfl) Try.func8
    (ChangeSpec.witness6 (enc := enc) (C := Try.checked) false ⟨#[], #[.agg #[.int .i64 0, .int .i64 0], .slice none 0 0, .int .i64 0], []⟩ 8 (by kernel_rfl) (by kernel_rfl) (by kernel_rfl) (by kernel_rfl)) ?_
  intro W base args ds gs before hval0 hW hcnd _
  have hW' := hW
  obtain ⟨p, q, hA, hV, rfl, hfz, hnd⟩ := hW
  obtain ⟨rfl, rfl⟩ := trodVars_none hV
  have hlen := Ab.trodAll_len hA
  refine (Ab.law_calls good alive (fun t ht => List.all_eq_true.1 sup t ht) walk (fun j t v ht hv => hval0 j t v (by simpa using ht) (by simpa using hv)) hA).mono fun e W' ⟨he, hg⟩ => ?_
  subst he
  obtain ⟨d0, d1, d2, rfl⟩ : ∃ d0 d1 d2, ds = [d0, d1, d2] := by
    have hlen : ds.length = 3 := by rw [Try.params8] at hlen; exact hlen
    match ds, hlen with
    | [d0, d1, d2], _ => exact ⟨d0, d1, d2, rfl⟩
  exact ⟨_, rfl, Ab.post_law laid rdb' rfl hW' hg (fun _ _ _ => (trodAll_cons_mk (shut_bool Try.underlying4 _) trodAll_mk0)) rfl rfl⟩

theorem over : Rows.tableFullRow.holds Try.pinned (OpenSpec.ofChange Rows.tableFullSpec) :=
  OpenClaim.holds_of_wide 8 Try.f8 rfl rfl rfl rfl rfl rfl rfl ⟨rfl, rfl, rfl, rfl, rfl⟩ rfl rfl rfl rfl rfl (by kernel_rfl) Try.func8 (by kernel_rfl)
    (of_decide_eq_true (by kernel_rfl)) (by unfold Func.isWrapper; first | (rw [if_pos (by decide +kernel)]; kernel_rfl) | (rw [if_neg (by decide +kernel)]; exact ⟨rfl, rfl⟩))
    (fun os started H enc _ => lifted os started H enc)

theorem proved : Rows.TableFullSaid :=
  over
end Go.Proofs.Ytccblhllmplmaaa.tableFull
